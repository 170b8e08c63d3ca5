/- The layer of abstract runs, part 23. -/
import Derived.Test.YtnojpbbaohoadaaGreatDoorCowV
import Derived.Test.YtnojpbbaohoadaaGreatDoorTie
import Derived.Test.YtnojpbbaohoadaaGreatDoorCards
import Derived.ProofKit
import Derived.LaidMore
import Derived.OpenShut
import Derived.Lay
import Derived.SevenTiedAt
import Derived.Stop.Joined
import Derived.Stop.LaidErr
import Derived.Lib.LaidTab
import Derived.WideKeyArgs
import Derived.Lib.SmallJoins
import Derived.Deep.Slices
import Derived.Laws.Strings
import Derived.KernelRfl
import Derived.Shelf.Strings.Builder1
import Derived.Deep.Heap
set_option linter.unusedSimpArgs false
set_option linter.unusedVariables false
set_option linter.all false

set_option maxHeartbeats 4000000
namespace Go.AI
open Go.Proofs
set_option maxRecDepth 20000
theorem zlw {s:Sta} {ev:Int}:∀ {l:List Mv} {i:Nat} {out:Option Nat} {two:Bool} {k:Nat},(∀ k,out = some k → k < i) → (chs s ev l i out two).1 = some k → k < i + l.length
 | [],i,out,two,k,ho,h => by
  simp only [chs] at h
  split at h
  ·cases h
  ·exact ho k h
 | x :: r,i,out,two,k,ho,h => by
  simp only [chs] at h
  have h1:(∀ k,out = some k → k < i + 1):=fun k hk => by have:=ho k hk; omega
  split at h
  ·have:=zlw h1 h; simp only [List.length_cons]; omega
  ·split at h
   ·cases h
   ·split at h
    ·have:=zlw (out:=some i) (fun k hk => by simp at hk; omega) h; simp only [List.length_cons]; omega
    ·have:=zlw h1 h; simp only [List.length_cons]; omega
theorem zeC {n:Int}:∀ {l:List Upd} {p:Option Int},zcf n p l = 0 → ∀ u ∈ l,0 ≤ u.v ∧ u.v < n ∧ zbo u.x n 1 = 0
 | [],_,_,u,hu => by simp at hu
 | x :: r,p,h,u,hu => by
  simp only [zcf] at h
  by_cases h1:x.v < 0 ∨ x.v ≥ n
  ·rw [if_pos h1] at h; cases h
  rw [if_neg h1] at h
  by_cases h2:p.any (x.v ≤ ·) = true
  ·rw [if_pos h2] at h; cases h
  rw [if_neg h2] at h
  by_cases h3:zbo x.x n 1 ≠ 0
  ·rw [if_pos h3] at h; exact absurd h h3
  rw [if_neg h3] at h
  rcases List.mem_cons.1 hu with rfl | hu
  ·exact ⟨by omega,by omega,by simpa using h3⟩
  ·exact zeC h u hu
structure mvRight (m:Ext) (x:Mv):Prop where
 frm:0 ≤ x.frm ∧ x.frm < m.locs
 to:0 ≤ x.to ∧ x.to < m.locs
 ev:x.ev ∈ m.alpha
 g:zbo x.g m.vars.length 2 = 0
 us:zcf m.vars.length none x.us = 0
theorem zja {m:Ext} {p:Option Mv} {x:Mv} (h:zh8 m p x = 0):mvRight m x:=by
 unfold zh8 at h
 by_cases h1:x.frm < 0 ∨ x.frm ≥ m.locs ∨ x.to < 0 ∨ x.to ≥ m.locs
 ·rw [if_pos h1] at h; cases h
 rw [if_neg h1] at h
 by_cases h2:x.ev ∉ m.alpha
 ·rw [if_pos h2] at h; cases h
 rw [if_neg h2] at h
 by_cases h3:p.any (fun p => decide (x.frm < p.frm ∨ (x.frm = p.frm ∧ x.ev < p.ev))) = true
 ·rw [if_pos h3] at h; cases h
 rw [if_neg h3] at h
 by_cases h4:zbo x.g m.vars.length 2 ≠ 0
 ·rw [if_pos h4] at h; exact absurd h h4
 rw [if_neg h4] at h
 exact ⟨by omega,by omega,by simpa using h2,by simpa using h4,h⟩
theorem zeG {m:Ext}:∀ {l:List Mv} {p:Option Mv},zfy m p l = 0 → ∀ x ∈ l,mvRight m x
 | [],_,_,x,hx => by simp at hx
 | y :: r,p,h,x,hx => by
  simp only [zfy] at h
  by_cases h1:zh8 m p y ≠ 0
  ·rw [if_pos h1] at h; exact absurd h h1
  rw [if_neg h1] at h
  rcases List.mem_cons.1 hx with rfl | hx
  ·exact zja (by simpa using h1)
  ·exact zeG h x hx
structure extRight (m:Ext):Prop where
 alpha:zaz 32 m.alpha none = 0
 locs:1 ≤ m.locs ∧ m.locs ≤ 64
 init:0 ≤ m.init ∧ m.init < m.locs
 marked:zaz m.locs m.marked none = 0
 vars:zbr m.vars = 0
 len:m.moves.length ≤ 256
 mv:∀ x ∈ m.moves,mvRight m x
theorem zf0 {m:Ext} (h:chk m = 0):extRight m:=by
 unfold chk at h
 by_cases h1:zaz 32 m.alpha none ≠ 0
 ·rw [if_pos h1] at h; exact absurd h h1
 rw [if_neg h1] at h
 by_cases h2:m.locs < 1 ∨ m.locs > 64 ∨ m.init < 0 ∨ m.init ≥ m.locs
 ·rw [if_pos h2] at h; cases h
 rw [if_neg h2] at h
 by_cases h3:zaz m.locs m.marked none ≠ 0
 ·rw [if_pos h3] at h; exact absurd h h3
 rw [if_neg h3] at h
 by_cases h4:zbr m.vars ≠ 0
 ·rw [if_pos h4] at h; exact absurd h h4
 rw [if_neg h4] at h
 by_cases h5:m.moves.length > 256
 ·rw [if_pos h5] at h; cases h
 rw [if_neg h5] at h
 exact ⟨by simpa using h1,by omega,by omega,by simpa using h3,by simpa using h4,by omega,zeG h⟩
theorem zkT {l:List Vr} (h:zbr l = 0):l.length ≤ 16:=by
 unfold zbr at h
 by_cases h1:l.length > 16
 ·rw [if_pos h1] at h; cases h
 ·omega
def updR (m:Ext) (vals:List Int):List Upd → List Int → Option (List Int)
 | [],acc => some acc
 | u :: r,acc => match m.vars[u.v.toNat]? with
  | none => none
  | some v => if (zcI u.x vals).2 ≠ 0 ∨ (zcI u.x vals).1 < v.low ∨ (zcI u.x vals).1 > v.high then none else updR m vals r (acc.set u.v.toNat (zcI u.x vals).1)
def ze6:Sta:=⟨0,[]⟩
def zf6 (m:Ext) (s:Sta) (ev:Int):Sta × Bool × Int:=
 match (chs s ev m.moves 0 none false).1 with
 | none => (ze6,false,(chs s ev m.moves 0 none false).2)
 | some k => if (chs s ev m.moves 0 none false).2 ≠ 0 then (ze6,false,(chs s ev m.moves 0 none false).2) else match m.moves[k]? with
  | none => (ze6,false,0)
  | some x => match updR m s.vals x.us s.vals with
   | none => (ze6,false,17)
   | some acc => (⟨x.to,acc⟩,true,0)
theorem coZ {b:Bool} {e:Int}:CoD (.tup [.agg [ii 0,.i (.v (.slice none 0 0))],bb b,ii e]) (.tup [staD ze6,bb b,ii e]):=
 zcK (.cons (zcq (.cons (.refl _) (.cons (zc5 zbn) .nil))) (CoDL.refl _))
theorem zt1 (O:List Heap) (m:Ext) (s:Sta) (ev:Int) (hok:extOk m) (hr:extRight m) (hl:s.vals.length = m.vars.length):zal Tryz.prog 71 [extD m,staD s,ii ev] O (.tup [staD (zf6 m s ev).1,bb (zf6 m s ev).2.1,ii (zf6 m s ev).2.2]) [] O:=by
 have hv16:=zkT hr.vars
 have hlm:s.vals.length ≤ zap:=by simp only [zap]; omega
 have hch:=fun O => zrL O m s ev hok hlm
 have hlt:=@zlw s ev m.moves 0 none false
 generalize hR:zf6 m s ev = R
 unfold zf6 at hR
 generalize chs s ev m.moves 0 none false = C at *
 obtain ⟨out,e⟩:=C
 simp only at hR hch hlt
 obtain ⟨sl,sv⟩:=s
 simp only at hl hR hlm
 cases out with
 | none =>
  simp only at hR
  subst hR
  refine zaa Tk Tryz.func71 rfl Tryz.call71 Tryz.ntmps71 (Nat.le_of_ble_eq_true rfl) fun E => ?_
  refine zai Tk Tryz.func71 ?_
  refine zag Tk Tryz.func71 (hch _) rfl rfl rfl rfl rfl ?_
  refine zaL Tk Tryz.func71 rfl (fun h1 => ?_) (fun h1 => ?_)
  ·refine gcT Tk Tryz.func71 rfl ?_
   refine zav Tk (r:=.tup [.agg [ii 0,.i (.v (.slice none 0 0))],bb false,ii e]) rfl rfl rfl trivial rfl rfl ?_
   exact coZ
  ·refine gcT Tk Tryz.func71 rfl ?_
   refine zav Tk (r:=.tup [.agg [ii 0,.i (.v (.slice none 0 0))],bb false,ii e]) rfl rfl rfl trivial rfl rfl ?_
   exact coZ
 | some k =>
  refine zaa Tk Tryz.func71 rfl Tryz.call71 Tryz.ntmps71 (Nat.le_of_ble_eq_true rfl) fun E => ?_
  refine zai Tk Tryz.func71 ?_
  refine zag Tk Tryz.func71 (hch _) rfl rfl rfl rfl rfl ?_
  refine zaL Tk Tryz.func71 rfl (fun h1 => ?_) (fun h1 => ?_)
  ·have h1:=bneT h1
   simp only at hR
   rw [if_pos h1] at hR
   subst hR
   refine gcT Tk Tryz.func71 rfl ?_
   refine zav Tk (r:=.tup [.agg [ii 0,.i (.v (.slice none 0 0))],bb false,ii e]) rfl rfl rfl trivial rfl rfl ?_
   exact coZ
  have h1:=bneF h1
  have hk:k < m.moves.length:=by have:=hlt (k:=k) (by simp) rfl; omega
  have hg:(m.moves.map mvI)[k]? = some (mvI m.moves[k]):=by simp [hk]
  have hx:=hok.mv _ (List.getElem_mem hk)
  have hxr:=hr.mv _ (List.getElem_mem hk)
  simp only at hR
  rw [if_neg (by simpa using h1),List.getElem?_eq_getElem hk] at hR
  simp only at hR
  generalize m.moves[k] = x at *
  obtain ⟨xf,xe,xt,xg,xu⟩:=x
  obtain ⟨-,hx2,hx3⟩:=hx
  simp only at hx2 hx3 hR
  have hur:=zeC hxr.us
  simp only at hur
  clear hxr hch hlt
  refine gcF Tk Tryz.func71 rfl ?_
  refine zaA Tk Tryz.func71 zaK rfl ?_
  refine zaN Tk (hg) ?_
  refine zaY Tk (fun _ => ztM 38 _ sv (by simp only [big]; omega)) rfl rfl rfl ?_
  refine zuc Tk ?_
  refine ztG Tk (p:=⟨[],[(11,.box [ii xt,.osl 0 38])],none⟩) rfl rfl rfl ?_
  refine zpx Tk Tryz.func71 (by kernel_rfl) (GM.h ?_)
  refine zao Tk Tryz.func71 (hg) ?_
  refine zah ?_
  refine zak (fun x:Nat × List Int => [(3,.own 0 3 0 0),(4,.own 0 4 0 0),(6,.own 0 6 0 0),(11,.own 0 11 0 0),(43,upds xu),(44,ii xu.length),(45,ii x.1)]) (fun x => [(11,.box [ii xt,.osl 0 38]),(38,zbP x.2),(6,.box [ii 0,.i (.v (.slice none 0 0))]),(4,.box [ii sl,ints sv]),(3,.box (extC m))]) (fun _ => O) 86
   (fun x => x.1 ≤ xu.length ∧ x.2.length = m.vars.length ∧ (match updR m sv (xu.drop x.1) x.2 with | none => (ze6,false,17) | some acc => (⟨xt,acc⟩,true,0)) = R) (fun x => xu.length - x.1) (0,sv) ⟨Nat.zero_le _,hl,hR⟩ ⟨rfl,rfl,rfl,rfl,rfl,rfl,rfl,trivial⟩ rfl ⟨rfl,rfl,rfl,rfl,rfl,trivial⟩ rfl rfl ?_
  rintro ⟨i,acc⟩ ⟨hi,hacc,hno⟩ ih
  clear hR
  simp only at hi hacc hno
  refine zai Tk Tryz.func71 ?_
  refine zaf Tk Tryz.func71 rfl (fun h2 => ?_) (fun h2 => ?_)
  ·have h2:i < xu.length:=by simpa using h2
   have hd:xu.drop i = xu[i] :: xu.drop (i + 1):=List.drop_eq_getElem_cons h2
   have hgu:(xu.map updI)[(i:Int).toNat]? = some (updI xu[i]):=zam h2
   have hm:=List.getElem_mem h2
   generalize xu[i] = u at *
   have hux:=hx3 u hm
   have hur:=hur u hm
   obtain ⟨uv,ux⟩:=u
   simp only at hux hur
   obtain ⟨hu0,hu1,-⟩:=hur
   have huv:uv.toNat < m.vars.length:=by omega
   have hgv:(m.vars.map vrI)[uv.toNat]? = some (vrI m.vars[uv.toNat]):=by simp [huv]
   rw [hd] at hno
   simp only [updR] at hno
   rw [List.getElem?_eq_getElem huv] at hno
   simp only at hno
   generalize m.vars[uv.toNat] = v at *
   obtain ⟨vn,vl,vh,vi'⟩:=v
   simp only at hno
   have bad:((zcI ux sv).2 ≠ 0 ∨ (zcI ux sv).1 < vl ∨ (zcI ux sv).1 > vh) → R = (ze6,false,17):=fun h => by rw [← hno,if_pos h]
   have good:¬ ((zcI ux sv).2 ≠ 0 ∨ (zcI ux sv).1 < vl ∨ (zcI ux sv).1 > vh) → (match updR m sv (xu.drop (i + 1)) (acc.set uv.toNat (zcI ux sv).1) with | none => (ze6,false,17) | some acc => (⟨xt,acc⟩,true,0)) = R:=fun h => by rw [← hno,if_neg h]
   clear hno
   refine zaj Tk Tryz.func71 (by omega) ?_
   refine zao Tk Tryz.func71 (hgu) ?_
   refine zag Tk Tryz.func71 (zdN _ ux sv hux hlm) rfl rfl rfl rfl rfl ?_
   generalize zcI ux sv = V at *
   obtain ⟨w,we⟩:=V
   simp only at bad good
   refine zaj Tk Tryz.func71 (by exact ⟨hu0,hu1⟩) ?_
   refine zao Tk Tryz.func71 (hgv) ?_
   refine zaL Tk Tryz.func71 rfl (fun h3 => ?_) (fun h3 => ?_)
   ·have:=bad (.inl (bneT h3))
    subst this
    repeat (first | refine gcT Tk Tryz.func71 rfl ?_ | refine gkT Tk Tryz.func71 rfl ?_ | refine skT Tk ?_ | refine gcF Tk Tryz.func71 rfl ?_ | refine gkF Tk Tryz.func71 rfl ?_ | refine skF Tk ?_)
    refine zav Tk (r:=.tup [.agg [ii 0,.i (.v (.slice none 0 0))],bb false,ii 17]) rfl rfl rfl trivial rfl rfl ?_
    exact coZ
   have h3:=bneF h3
   refine zaL Tk Tryz.func71 rfl (fun h4 => ?_) (fun h4 => ?_)
   ·have:=bad (.inr (.inl (of_decide_eq_true h4)))
    subst this
    refine gcT Tk Tryz.func71 rfl ?_
    refine zav Tk (r:=.tup [.agg [ii 0,.i (.v (.slice none 0 0))],bb false,ii 17]) rfl rfl rfl trivial rfl rfl ?_
    exact coZ
   have h4:¬ w < vl:=of_decide_eq_false h4
   refine zaf Tk Tryz.func71 rfl (fun h5 => ?_) (fun h5 => ?_)
   ·have:=bad (.inr (.inr (of_decide_eq_true h5)))
    subst this
    refine zav Tk (r:=.tup [.agg [ii 0,.i (.v (.slice none 0 0))],bb false,ii 17]) rfl rfl rfl trivial rfl rfl ?_
    exact coZ
   have h5:¬ w > vh:=of_decide_eq_false h5
   have good:=good (by omega)
   refine zaj Tk Tryz.func71 (by exact ⟨hu0,by rw [hacc]; exact hu1⟩) ?_
   refine zah ?_
   refine ih (i + 1,acc.set uv.toNat w) _ _ ⟨h2,by simp only [List.length_set]; exact hacc,good⟩ (by simp only; omega) ⟨rfl,rfl,rfl,rfl,rfl,rfl,congrArg ii (zay h2 hx2),trivial⟩ rfl ⟨rfl,?_,rfl,rfl,rfl,trivial⟩ rfl rfl
   show some (Ob.arr 3 1 acc.length ((acc.map fun x => [vi x]).set uv.toNat [vi w]) true) = _
   simp [List.map_set]
  ·have h2:xu.length ≤ i:=by simpa using h2
   rw [List.drop_eq_nil_of_le h2] at hno
   simp only [updR] at hno
   subst hno
   refine zbb (zau 38 rfl rfl) ?_
   refine zbb (zb2 rfl) ?_
   refine zad Tk (r:=.tup [.agg [ii xt,ints acc],bb true,ii 0]) rfl rfl rfl trivial rfl rfl ?_
   rfl
end Go.AI


namespace Go.AI
open Go.Proofs
set_option maxRecDepth 20000
def zd6 (n:Int):ByteArray:=⟨(Lib.itoa n).toArray⟩
def ptab (ty:TypeId) (fr:Nat × Nat):Obj:=.cells (Lib.pow10Tab.map fun z => Value.int .u64 z).toArray ty fr
theorem zqH {name:String} {g:Nat} {ty:TypeId} {fr:Nat × Nat} {w:World} (hg:Tryz.prog.globalNamed name = some g) (h:w.heap[g]? = some (ptab ty fr)):Lib.TabIs Tryz.prog w name .u64 Lib.pow10Tab:=by
 simp only [Lib.TabIs,World.var?,hg,Option.bind_some,h,ptab]
def zdU (g : Nat) : Prop := ∀ ty fr w, w.heap[g]? = some (ptab ty fr) → Lib.TabIs Tryz.prog w "internal/strconv.uint64pow10" .u64 Lib.pow10Tab
theorem zgA {g:Nat} (hg:zdU g) {ty:TypeId} {fr:Nat × Nat} (O:List Heap) (n:Int) (h0:-9223372036854775808 ≤ n) (h1:n ≤ 9223372036854775807):zbd g (ptab ty fr) Tryz.prog 27 [ii n] O (.i (.v (.string (zd6 n)))) [] O:=by
 intro E K ρ w vs hw htab hrep
 obtain rfl:vs = [.int .i64 n]:=by
  cases hrep with
  | cons r rs => cases rs; rw [zaD r]
 refine .inl ⟨Tryz.call27 _ _,?_⟩
 refine (Tryz.strconv_Itoa n h0 h1 w (hg ty fr w htab.1)).mono ?_
 rintro e w' ⟨rfl,k,os,rfl⟩
 obtain ⟨ρ1,hρ1,hI⟩:=zcx hw
 obtain ⟨hI2,hst⟩:=HInv.grow (S:=[] :: O) rfl hI (fun _ _ _ e => e) (fun _ h => by simp [look] at h) (zin hI k os)
 exact ⟨_,rfl,K,ρ1,hI2,.i (.v rfl)⟩
end Go.AI


namespace Go.Proofs.YtnojpbbaohoadaaGreatDoor
open Go.ChangeShapes Go.WideShapes Go.ChangeAt Go.RowKit
set_option maxRecDepth 100000
theorem Tryz.own:ownKnob Tryz.prog.godebug = none:=by kernel_rfl
theorem powG : Tryz.prog.globalNamed "internal/strconv.uint64pow10" = some 0 := by kernel_rfl
theorem zuw:AI.zdU 0:=fun _ _ _ h => AI.zqH powG h
theorem ziY {W : World} (h : laidMetH Tryz.prog [("math/bits.deBruijn32tab", Rows.laid_math_bits_deBruijn32tab), ("math/bits.deBruijn64tab", Rows.laid_math_bits_deBruijn64tab), ("internal/strconv.uint64pow10", Rows.laid_internal_strconv_uint64pow10)] W) :
  ∃ ty fr,W.heap[0]? = some (AI.ptab ty fr):=by
 rw [MakeChecks.laidMetH_plain _ _ _ (by kernel_rfl)] at h
 have h3:=laidMet.tail (laidMet.tail h)
 have hT : Lib.TabIs Tryz.prog W "internal/strconv.uint64pow10" .u64 Lib.pow10Tab :=
  Lib.tabIs_of_head (t:=369) (e:=321) (n:=20) powG (by kernel_rfl) (by kernel_rfl) (by kernel_rfl) (by kernel_rfl) (by kernel_rfl) (rest:=[]) h3
 unfold Lib.TabIs World.var? at hT
 rw [powG] at hT
 simp only [Option.bind_some] at hT
 cases hc:W.heap[0]? with
 | none => rw [hc] at hT; cases hT
 | some o =>
  rw [hc] at hT
  cases o with
  | cells cs ty fr =>
   simp only [Option.some.injEq] at hT
   subst hT
   exact ⟨ty,fr,rfl⟩
  | _ => cases hT
theorem zrP {f:FuncId} {args:List AI.D} {vs:List Value} {b:Bool} {W:World} {ty:TypeId} {fr:Nat × Nat} (h0:W.heap[0]? = some (AI.ptab ty fr))
  (hcall:∀ a w,(callFunc f a).run Tryz.prog w = .ok (.enter f a) w) (hs:AI.zbd 0 (AI.ptab ty fr) Tryz.prog f args [] (AI.bb b) [] [])
  {K:AI.Kn} (hK:∀ bl o x,K bl o = some x → W.cell? ⟨bl,o,none⟩ = some x) (hr:∀ ρ sh,AI.RepDL K ρ sh vs args) :
  Calls Tryz.prog f vs.toArray W fun e W' => e = .returned (.bool b) ∧ (∀ i,i < W.heap.size → W'.heap[i]? = W.heap[i]?) ∧ W'.os = W.os ∧ W'.output = W.output:=by
 let ρ:Nat → Nat → AI.Loc:=fun _ _ => ⟨0,0,none⟩
 have hobj:∀ d n,AI.zab [] d n = none:=fun d n => by simp [AI.zab]
 have hI:AI.HInv (AI.Env.of K ρ W) K ρ [] W:=
  ⟨hK,(fun d n ob e => absurd ((hobj d n).symm.trans e) (by simp)),(fun d n ob d' n' ob' e => absurd ((hobj d n).symm.trans e) (by simp)),Nat.le_refl _,fun _ _ _ => rfl,(fun n ob e => absurd ((hobj 0 n).symm.trans e) (by simp)),fun _ => rfl,fun _ _ _ h => h,fun _ _ _ h => .inl h,rfl,rfl,rfl⟩
 have ht:AI.TabQ 0 (AI.ptab ty fr) [] ρ W:=⟨h0,fun d n x e => by simp [AI.shape,hobj] at e⟩
 rcases hs _ K ρ W vs hI ht (hr _ _) with ⟨_,h⟩ | ⟨v,w',h,_⟩
 ·refine h.mono fun e W' => ?_
  rintro ⟨v,rfl,K',ρ',h1,h2⟩
  obtain rfl:=AI.zaD h2
  refine ⟨rfl,fun i hi => h1.old i hi fun d n ob e => ?_,h1.rest.2.1,h1.rest.2.2⟩
  simp [AI.zab] at e
 ·rw [hcall] at h
  cases h
theorem ztv {W W':World} {P:MemPlace → Prop} (h:∀ i,i < W.heap.size → W'.heap[i]? = W.heap[i]?) (h1:W'.os = W.os) (h2:W'.output = W.output):W.keptBut W' P:=by
 refine ⟨h1,h2,fun i hi => ?_⟩
 rw [h i hi]
 exact (World.keptBut_refl W P).2.2 i hi
end Go.Proofs.YtnojpbbaohoadaaGreatDoor


namespace Go.Proofs.YtnojpbbaohoadaaGreatDoor
open Go.ChangeShapes Go.WideShapes Go.ChangeAt Go.RowKit Go.Deep Go.WideElems
set_option maxRecDepth 100000
def KW (W:World):AI.Kn:=fun b o => W.cell? ⟨b,o,none⟩
theorem zu7 (W:World):∀ bl o x,KW W bl o = some x → W.cell? ⟨bl,o,none⟩ = some x:=fun _ _ _ h => h
section
variable {H:Type} {enc:TypeId × Value → H} {P:Program} {W:World}
theorem zgQ {t:TypeId} (hl:laidOutB P = true) (hr:P.readableRec t = true) (hrow:decide (t < P.types.size) = true) {W':World} {v:Value} {d:DataW H} {ps:List MemPlace}
  (h:DataW.Trod enc P W 0 (fun _ => true) true t v d ps) (hold:∀ i,i < W.heap.size → W'.heap[i]? = W.heap[i]?):DataW.Trod enc P W' 0 (fun b => decide (b < W.heap.size)) true t v d ps:=by
 have hlt:∀ p ∈ ps,p.block < W.heap.size:=by
  obtain ⟨n,hn⟩:=h
  exact DataW.trod_lt n t _ _ hn
 refine Trod_stays hl hr (of_decide_eq_true hrow) h (fun p hp => ?_) (fun p hp => decide_eq_true (hlt p hp))
 have hb:=hlt p hp
 cases p with
 | cell b off =>
  show W'.cell? ⟨b,off,none⟩ = W.cell? ⟨b,off,none⟩
  unfold World.cell?
  rw [hold b hb]
 | map b => exact hold b hb
end
end Go.Proofs.YtnojpbbaohoadaaGreatDoor


namespace Go.Proofs.YtnojpbbaohoadaaGreatDoor
open Go.ChangeShapes Go.WideShapes Go.ChangeAt Go.RowKit Go.Deep Go.WideElems
set_option maxRecDepth 100000
theorem zn2 {x:Int} (h:(Lit.int .u8 x).wf = true):0 ≤ x ∧ x ≤ 255:=by
 simp only [Lit.wf,Bool.and_eq_true,decide_eq_true_eq] at h
 have e1:IntKind.u8.min = 0:=rfl
 have e2:IntKind.u8.max = 255:=rfl
 rw [e1,e2] at h
 exact h
section
variable {H:Type} {enc:TypeId × Value → H} {W:World}
theorem zk4 {r:Reach} {b0:Nat} {v:Value} {d:DataW H} {p:List MemPlace} (hv:Value.okWide Tryz.prog W r b0 5 v) (h:DataW.Trod enc Tryz.prog W 0 (fun _ => true) true 5 v d p) :
  ∃ n:Int,(0 ≤ n ∧ n ≤ 255) ∧ ∀ ρ sh,AI.RepD (KW W) ρ sh v (.i (.v (.int .u8 n))):=by
 obtain ⟨x,rfl,h1,h2,h3⟩:=open_int Tryz.underlying5 hv h
 exact ⟨x,by first | exact zn2 h1 | exact zn2 h2 | exact zn2 h3,fun ρ sh => .i (.v rfl)⟩
end
end Go.Proofs.YtnojpbbaohoadaaGreatDoor


namespace Go.AI
structure Unf (σ:Type) where
 sts:List σ
 mkl:List Int
 eds:List (Int × Int × Int)
def kOf:List (Int × Int × Int) → Nat → Option Nat
 | [],k => some k
 | e :: r,k => if (0 ≤ e.1 ∧ e.1 < k) ∧ 0 ≤ e.2.2 ∧ e.2.2 ≤ k then kOf r (if e.2.2 = k then k + 1 else k) else none
section
variable {σ:Type} (eq:σ → σ → Bool) (lim:Bool) (step:σ → Int → σ × Bool × Int) (mkd:σ → Bool)
def zeB (i:Nat) (s:σ) (ev:Int) (U:Unf σ):Except Int (Unf σ):=
 if (step s ev).2.2 ≠ 0 then .error (step s ev).2.2 else
 if (step s ev).2.1 = false then .ok U else
 if U.sts.findIdx (eq (step s ev).1) < U.sts.length then .ok { U with eds:=U.eds ++ [((i:Int),ev,((U.sts.findIdx (eq (step s ev).1):Nat):Int))] } else
 if lim = true ∧ U.sts.length = 4096 then .error 3 else
 .ok { sts:=U.sts ++ [(step s ev).1],mkl:=U.mkl,eds:=U.eds ++ [((i:Int),ev,((U.sts.findIdx (eq (step s ev).1):Nat):Int))] }
def zbh (i:Nat) (s:σ):List Int → Unf σ → Except Int (Unf σ)
 | [],U => .ok U
 | ev :: r,U => match zeB eq lim step i s ev U with
  | .error e => .error e
  | .ok U' => zbh i s r U'
def zfc (i:Nat) (s:σ) (U:Unf σ):Unf σ:=if mkd s then { U with mkl:=U.mkl ++ [(i:Int)] } else U
def zeP (alpha:List Int):Nat → Nat → Unf σ → Except Int (Unf σ)
 | 0,_,U => .ok U
 | f + 1,i,U => match U.sts[i]? with
  | none => .ok U
  | some s => match zbh eq lim step i s alpha (zfc mkd i s U) with
   | .error e => .error e
   | .ok U' => zeP alpha f (i + 1) U'
def unf0 (first:σ):Unf σ:=⟨[first],[],[]⟩
def unfR (alpha:List Int) (first:σ):Except Int (Unf σ):=zeP eq lim step mkd alpha 4097 0 (unf0 first)
theorem zhG (i:Nat) (s:σ) (U:Unf σ):(zfc mkd i s U).sts = U.sts ∧ (zfc mkd i s U).eds = U.eds:=by
 unfold zfc; split <;> exact ⟨rfl,rfl⟩
end
theorem findIdx_le {α:Type} {p:α → Bool}:∀ {l:List α},l.findIdx p ≤ l.length
 | [] => Nat.le_refl _
 | x :: l => by
  have:=findIdx_le (p:=p) (l:=l)
  rw [List.findIdx_cons]
  cases p x with
  | true => exact Nat.zero_le _
  | false => simp only [cond_false,List.length_cons]; omega
section
variable {σ:Type} [DecidableEq σ]
def eqB (a b:σ):Bool:=decide (a = b)
variable (step:σ → Int → σ × Bool × Int) (mkd:σ → Bool)
def eOf (sts:List σ) (i:Nat) (s:σ) (ev:Int):Option (Int × Int × Int):=if (step s ev).2.1 = true then some ((i:Int),ev,((sts.findIdx (eqB (step s ev).1):Nat):Int)) else none
structure Fin1 (eq:σ → σ → Bool) (lim:Bool) (P:σ → Prop):Prop where
 step:∀ s ev,P s → (step s ev).2.1 = true → P (step s ev).1
 eq:∀ s t,P s → P t → eq s t = eqB s t
 few:lim = true → ∀ l:List σ,(∀ s ∈ l,P s) → l.Nodup → l.length < 4096
structure UOk (P:σ → Prop) (U:Unf σ):Prop where
 ok:∀ s ∈ U.sts,P s
 nd:U.sts.Nodup
 fr:kOf U.eds 1 = some U.sts.length
variable {step} {eq:σ → σ → Bool} {lim:Bool} {P:σ → Prop}
structure UAt (mkd:σ → Bool) (alpha:List Int) (P:σ → Prop) (step:σ → Int → σ × Bool × Int) (i:Nat) (U:Unf σ):Prop extends UOk P U where
 le:i ≤ U.sts.length
 pos:0 < U.sts.length
 eds:U.eds = (List.range i).flatMap fun k => match U.sts[k]? with
  | none => []
  | some s => alpha.filterMap (eOf step U.sts k s)
 mkl:U.mkl = ((List.range i).filter fun k => match U.sts[k]? with
  | none => false
  | some s => mkd s).map fun k => ((k:Nat):Int)
 fine:∀ k s,k < i → U.sts[k]? = some s → ∀ ev ∈ alpha,(step s ev).2.2 = 0 ∧ ((step s ev).2.1 = true → (step s ev).1 ∈ U.sts)
end
end Go.AI


namespace Go.AI
abbrev Edg:=Int × Int × Int
structure Aut where
 alpha:List Int
 states:Int
 marked:List Int
 edges:List Edg
abbrev edgI (e:Edg):List I:=[vi e.1,vi e.2.1,vi e.2.2]
abbrev edgs (l:List Edg):D:=.i (.sl 3 l.length (l.map edgI))
abbrev autD (a:Aut):D:=.agg [ints a.alpha,ii a.states,ints a.marked,edgs a.edges]
def zse (alpha:List Int) (n:Int):Option Edg → List Edg → Int
 | _,[] => 0
 | prev,x :: r => if x.1 < 0 ∨ x.1 ≥ n ∨ x.2.2 < 0 ∨ x.2.2 ≥ n then 2 else if x.2.1 ∉ alpha then 9 else
  if prev.any (fun y => decide (x.1 < y.1 ∨ x.1 = y.1 ∧ x.2.1 ≤ y.2.1)) = true then 5 else zse alpha n (some x) r
def chkA (a:Aut):Int:=if zaz 32 a.alpha none ≠ 0 then zaz 32 a.alpha none else if a.states < 0 then 2 else if a.states > 4096 then 3 else
 if zaz a.states a.marked none ≠ 0 then zaz a.states a.marked none else zse a.alpha a.states none a.edges
end Go.AI


namespace Go.AI
def cmpI (x y:Int):Int:=if x < y then -1 else if x > y then 1 else 0
end Go.AI


namespace Go.AI
def renH (a b:Nat):Heap → Heap
 | [] => []
 | (k,o) :: r => (renN a b k,o) :: renH a b r
theorem zcs (a b:Nat):renN a b a = b:=by simp [renN]
theorem zcV {a b n:Nat} (h:n ≠ a):renN a b n = n:=by
 unfold renN
 cases hb:Nat.beq n a with
 | false => rfl
 | true => exact absurd (Nat.eq_of_beq_eq_true hb) h
theorem zia {a b n:Nat} {o:Ob}:∀ {H:Heap},look H b = none → look (renH a b H) n = some o → ∃ n0,n = renN a b n0 ∧ look H n0 = some o
 | [],_,h => by simp [renH,look] at h
 | (k,x) :: r,hb,h => by
  rw [zac] at hb
  split at hb
  ·cases hb
  ·rename_i hkb
   simp only [renH] at h
   rw [zac] at h
   split at h
   ·rename_i e
    simp only [Option.some.injEq] at h
    subst h
    exact ⟨k,e.symm,by rw [zac,if_pos rfl]⟩
   ·rename_i e
    obtain ⟨n0,h1,h2⟩:=zia hb h
    refine ⟨n0,h1,?_⟩
    rw [zac,if_neg]
    ·exact h2
    ·intro e2
     subst e2
     exact e h1.symm
theorem zgv {a b n0:Nat} {o:Ob}:∀ {H:Heap},look H b = none → look H n0 = some o → look (renH a b H) (renN a b n0) = some o
 | [],_,h => by simp [look] at h
 | (k,x) :: r,hb,h => by
  rw [zac] at hb
  split at hb
  ·cases hb
  ·rename_i hkb
   rw [zac] at h
   simp only [renH]
   rw [zac]
   split at h
   ·rename_i e
    subst e
    rw [if_pos rfl]; exact h
   ·rename_i e
    rw [if_neg]
    ·exact zgv hb h
    ·intro e2
     by_cases h1:k = a
     ·subst h1
      rw [zcs,zcV (Ne.symm e)] at e2
      subst e2
      rw [hb] at h; cases h
     ·rw [zcV h1] at e2
      by_cases h2:n0 = a
      ·subst h2; rw [zcs] at e2; exact hkb e2
      ·rw [zcV h2] at e2; exact e e2
section
variable {c:Cx} {s:St} {H:Heap} {O:List Heap}
theorem zrT (a b:Nat) (hS:s.S = H :: O) (hb:look H b = none) (hfl:allH (fun _ o => o.flat) H = true):Wk c s { σ:=renσ a b s.σ,S:=renH a b H :: O,n:=s.n }:=by
 intro K ρ act w hi
 have hh:=hi.h
 rw [hS] at hh
 let ρ':Nat → Nat → Loc:=upd ρ b (ρ 0 a)
 have hρ:∀ n0 o,look H n0 = some o → ρ' 0 (renN a b n0) = ρ 0 n0:=by
  intro n0 o h
  by_cases h1:n0 = a
  ·subst h1; rw [zcs]; exact zaB _ _ _
  ·rw [zcV h1]
   exact zaw _ _ _ (.inr fun e => by subst e; rw [hb] at h; cases h)
 have r1:∀ d n,ρ' (d + 1) n = ρ (d + 1) n:=fun d n => zaw _ _ _ (.inl (by omega))
 have hren:Ren a b ρ ρ' (shape (H :: O)) (shape (renH a b H :: O)):=by
  refine ⟨fun n x e => ?_,fun d n x e => ⟨by simpa [shape,zab] using e,r1 d n⟩⟩
  simp only [shape,zab,List.getElem?_cons_zero] at e ⊢
  cases hl:look H n with
  | none => simp [hl] at e
  | some o =>
   rw [zgv hb hl]
   exact ⟨by simpa [hl] using e,hρ _ _ hl⟩
 have hmv:Moves (fun _ => false) K K ρ ρ' (shape (H :: O)) (shape (renH a b H :: O)):=⟨K.le_refl,fun _ _ h => (by cases h),hren.s⟩
 have hcase:∀ d n o,zab (renH a b H :: O) d n = some o → ∃ n0,zab (H :: O) d n0 = some o ∧ ρ' d n = ρ d n0 ∧ (d = 0 → n = renN a b n0) ∧ (d ≠ 0 → n = n0):=by
  intro d n o e
  cases d with
  | zero =>
   obtain ⟨n0,rfl,h2⟩:=zia hb (by simpa [zab] using e)
   exact ⟨n0,by simpa [zab] using h2,hρ _ _ h2,fun _ => rfl,fun h => absurd rfl h⟩
  | succ d => exact ⟨n,by simpa [zab] using e,r1 _ _,fun h => absurd h (Nat.succ_ne_zero d),fun _ => rfl⟩
 have e0:∀ f:Nat → Nat → Loc,(fun d n => f (0 + d) n) = f:=by intro f; funext d n; rw [Nat.zero_add]
 refine ⟨K,ρ',⟨hh.holds,?_,?_,hh.size,?_,?_,?_,hh.Kle,hh.Knew,hh.rest⟩,hi.defers,hi.size,fun t d e => ?_⟩
 ·intro d n o e
  obtain ⟨n0,h1,h2,h3,h4⟩:=hcase d n o e
  have h0:=hh.own _ _ _ h1
  rw [h2]
  cases d with
  | zero =>
   rw [e0] at h0 ⊢
   have hf:o.flat = true:=zcA hfl (by simpa [zab] using h1)
   refine h0.move hmv ?_ (fun _ => rfl) (fun _ _ => rfl)
   cases o with
   | box cs => exact hf
   | tb _ cs => exact hf
   | arr => rfl
   | mp => rfl
  | succ d =>
   have e1:(fun d' n => ρ' (d + 1 + d') n) = fun d' n => ρ (d + 1 + d') n:=by
    funext d' n
    rw [show d + 1 + d' = (d + d') + 1 by omega,r1]
   rw [e1]
   simpa using h0
 ·intro d n o d2 n2 o2 e e2 b1 b2 hbe
  obtain ⟨m1,a1,a2,a3,a4⟩:=hcase d n o e
  obtain ⟨m2,c1,c2,c3,c4⟩:=hcase d2 n2 o2 e2
  rw [a2] at b1 hbe
  rw [c2] at b2 hbe
  obtain ⟨rfl,rfl⟩:=hh.inj _ _ _ _ _ _ a1 c1 b1 b2 hbe
  refine ⟨rfl,?_⟩
  by_cases h:d = 0
  ·rw [a3 h,c3 h]
  ·rw [a4 h,c4 h]
 ·intro b' hb' hno
  refine hh.old b' hb' fun d n o e hbk => ?_
  have:=hno d n o (by simpa [zab] using e) (by rw [r1]; exact hbk)
  rwa [r1] at this
 ·intro n o e hbk
  obtain ⟨n0,h1,h2,_⟩:=hcase 0 n o e
  rw [h2] at hbk ⊢
  exact hh.loc _ _ h1 hbk
 ·intro d
  funext n
  rw [r1,hh.outer]
 ·simp only [zd3] at e
  cases hl:look s.σ t with
  | none => simp [hl] at e
  | some d0 =>
   simp only [hl,Option.map_some,Option.some.injEq] at e
   subst e
   have:=hi.slots _ _ hl
   rw [hS] at this
   exact this.ren hren
end
end Go.AI


namespace Go.AI
def noPl:Pl:=⟨[],[],none⟩
section
variable {c:Cx} {s:St} {k:List Item} {ops:Array Oper} {rest:List Nat} {o:Oper}
theorem zgO {c:Cx} {ops:Array Oper} {O:List Heap} {n:Nat}:∀ {m:Nat} {l:List Oper} {qs:List Pl} {x:SH},zeO c ops O n (l.take m) qs x → zeO c ops O n l qs x
 | 0,l,[],x,_ => by cases l <;> trivial
 | 0,l,_ :: _,x,h => by
  rw [List.take_zero] at h
  exact h.elim
 | m + 1,[],qs,x,h => by simpa using h
 | m + 1,o :: r,[],x,_ => trivial
 | m + 1,o :: r,p :: qs,x,h => by
  rw [List.take_succ_cons] at h
  exact ⟨h.1,zgO h.2⟩
end
end Go.AI


namespace Go.AI
open Go.Proofs
set_option maxRecDepth 20000
end Go.AI


namespace Go.AI
open Go.Proofs
set_option maxRecDepth 20000
theorem zlu (O:List Heap) (x y:Int):zal Tryz.prog 59 [ii x,ii y] O (ii (cmpI x y)) [] O:=by
 have h:=fun O x => zoY O x
 unfold cmpI
 refine zaa Tk Tryz.func59 rfl Tryz.call59 Tryz.ntmps59 (Nat.le_of_ble_eq_true rfl) fun E => ?_
 refine zai Tk Tryz.func59 ?_
 refine zag Tk Tryz.func59 (h _ _) rfl rfl rfl rfl rfl ?_
 refine zag Tk Tryz.func59 (h _ _) rfl rfl rfl rfl rfl ?_
 refine gcF Tk Tryz.func59 rfl ?_
 refine gcF Tk Tryz.func59 rfl ?_
 refine zaf Tk Tryz.func59 rfl (fun c1 => ?_) (fun c1 => ?_)
 ·have c1:x < y:=of_decide_eq_true c1
  rw [if_pos c1]
  refine zad Tk (r:=ii (-1)) rfl rfl rfl trivial rfl rfl ?_
  rfl
 have c1:¬ x < y:=of_decide_eq_false c1
 rw [if_neg c1]
 refine zaf Tk Tryz.func59 rfl (fun c2 => ?_) (fun c2 => ?_)
 ·have c2:x > y:=of_decide_eq_true c2
  rw [if_pos c2]
  refine zad Tk (r:=ii 1) rfl rfl rfl trivial rfl rfl ?_
  rfl
 ·have c2:¬ x > y:=of_decide_eq_false c2
  rw [if_neg c2]
  refine zad Tk (r:=ii 0) rfl rfl rfl trivial rfl rfl ?_
  rfl
theorem zuU (O:List Heap) (x y:Int):zal Tryz.prog 64 [.i (.sl 1 2 [[vi x],[vi y]])] O (ii (if x ≠ 0 then x else y)) [] O:=by
 refine zaa Tk Tryz.func64 rfl Tryz.call64 Tryz.ntmps64 (Nat.le_of_ble_eq_true rfl) fun E => ?_
 refine zai Tk Tryz.func64 ?_
 refine zah ?_
 refine zai Tk Tryz.func64 ?_
 refine gcT Tk Tryz.func64 rfl ?_
 refine zaj Tk Tryz.func64 (by decide) ?_
 refine zao Tk Tryz.func64 (rfl) ?_
 refine zaf Tk Tryz.func64 rfl (fun c1 => ?_) (fun c1 => ?_)
 ·have c1:x ≠ 0:=by simpa using c1
  rw [if_pos c1]
  refine zad Tk (r:=ii x) rfl rfl rfl trivial rfl rfl ?_
  rfl
 have c1:¬ x ≠ 0:=by simpa using c1
 rw [if_neg c1]
 refine zah ?_
 refine zai Tk Tryz.func64 ?_
 refine gcT Tk Tryz.func64 rfl ?_
 refine zaj Tk Tryz.func64 (by decide) ?_
 refine zao Tk Tryz.func64 (rfl) ?_
 refine zaf Tk Tryz.func64 rfl (fun c2 => ?_) (fun c2 => ?_)
 ·refine zad Tk (r:=ii y) rfl rfl rfl trivial rfl rfl ?_
  rfl
 have c2:¬ y ≠ 0:=by simpa using c2
 obtain rfl:y = 0:=Classical.byContradiction c2
 refine zah ?_
 refine zai Tk Tryz.func64 ?_
 refine gcF Tk Tryz.func64 rfl ?_
 refine zad Tk (r:=ii 0) rfl rfl rfl trivial rfl rfl ?_
 rfl
end Go.AI


namespace Go.AI
theorem zoz {c:Cx} (hm:c.P.follows .mixedOrders = true) {id:Nat} {ops:Array Oper} {x0:St} {p:Nat} {k:List Item} {pre:List (List Nat)} (hpr:pre = zcW ops.toList []) (hpre:zi7 ops pre = true) (htl:zqG ops pre p = true) (hlen':p ≤ ops.size)
  (J:(Nat → Bool) → Act → World → Prop) (hJ:∀ L L' a w,(∀ k,k < ops.size → L k = L' k) → J L a w → J L' a w) (hbeg:∀ K ρ a w,Inv c.E K ρ x0 a w → J (fun _ => false) a w)
  (hstep:∀ (L:Nat → Bool),zcc ops L → ∀ i o,ops[i]? = some o → i < p → L i = false → (∀ j ∈ zbc o,L j = true) → (∀ j,j < ops.size → p ≤ j → L j = false) → ∀ a w,J L a w →
   ∀ (Q:Exit → Act → World → Prop) (next:Act → World → Prop),(∀ a' w',J (fun k => L k || Nat.beq k i) a' w' → next a' w') → wpOp c.P ops Q i next a w)
  (hend:∀ a w,J (fun k => Nat.ble (k + 1) p) a w → wpOps c.P ops (fun e a' w' => e = .normal ∧ Ends c k a' w') (List.range' p (ops.size - p)) a w):Rch c (.code (.region id ops true) :: k) x0:=by
 subst hpr
 intro K ρ a w b cs hi hb hk
 let Q:Exit → Act → World → Prop:=fun e a' w' => e = .normal ∧ Ends c k a' w'
 have hgetD:∀ (listed:Array Bool) (i:Nat),listed.size = ops.size → i < ops.size → ∀ k,(listed.setIfInBounds i true).getD k false = (listed.getD k false || Nat.beq k i):=by
  intro listed i hsz hlt k
  by_cases hki:k = i
  ·subst hki
   simp [hsz,hlt]
  ·have:Nat.beq k i = false:=by
    cases hb:Nat.beq k i with
    | false => rfl
    | true => exact absurd (Nat.eq_of_beq_eq_true hb) hki
   rw [this,Bool.or_false,getD_set_ne false (Ne.symm hki)]
 have hcntlt:∀ (listed:Array Bool) (i:Nat),listed.size = ops.size → i < ops.size → listed.getD i false = false → (List.range ops.size).countP (fun k => !(listed.setIfInBounds i true).getD k false) < (List.range ops.size).countP (fun k => !listed.getD k false):=by
  intro listed i hsz hlt hLi
  have e1:(fun k => !(listed.setIfInBounds i true).getD k false) = fun k => !listed.getD k false && !Nat.beq k i:=by
   funext k; rw [hgetD listed i hsz hlt]; simp
  rw [e1]
  obtain ⟨l1,l2,hl⟩:=List.append_of_mem (List.mem_range.2 hlt)
  rw [hl]
  simp only [List.countP_append,List.countP_cons]
  have m1:l1.countP (fun k => !listed.getD k false && !Nat.beq k i) ≤ l1.countP (fun k => !listed.getD k false):=List.countP_mono_left fun x _ hx => by simp only [Bool.and_eq_true] at hx; exact hx.1
  have m2:l2.countP (fun k => !listed.getD k false && !Nat.beq k i) ≤ l2.countP (fun k => !listed.getD k false):=List.countP_mono_left fun x _ hx => by simp only [Bool.and_eq_true] at hx; exact hx.1
  have e2:(!listed.getD i false) = true:=by rw [hLi]; rfl
  have e3:Nat.beq i i = true:=Nat.beq_refl i
  rw [if_pos e2,if_neg (by rw [e3]; simp)]
  omega
 have hready:∀ (listed:Array Bool),listed.size = ops.size → ∀ i,i < ops.size → listed.getD i false = false → (∀ o,ops[i]? = some o → ∀ j ∈ zbc o,listed.getD j false = true) → i ∈ Region.ready .any ops listed:=by
  intro listed hsz i hlt hLi hbe
  rw [mem_ready]
  obtain ⟨o,ho⟩:∃ o,ops[i]? = some o:=⟨ops[i],by rw [Array.getElem?_eq_getElem]⟩
  refine ⟨?_,o,ho,fun e he hb1 => hbe o ho e.on (zcF.2 ⟨e,he,hb1,rfl⟩)⟩
  simp only [Array.getD_eq_getD_getElem?] at hLi ⊢
  rw [Array.getElem?_eq_getElem (by omega)] at hLi ⊢
  simpa using hLi
 have hfromReady:∀ (listed:Array Bool),listed.size = ops.size → ∀ i ∈ Region.ready .any ops listed,∃ o,ops[i]? = some o ∧ i < ops.size ∧ listed.getD i false = false ∧ ∀ j ∈ zbc o,listed.getD j false = true:=by
  intro listed hsz i hi
  obtain ⟨h1,o,ho,hbe⟩:=mem_ready.1 hi
  have hlt:i < ops.size:=(Array.getElem?_eq_some_iff.1 ho).1
  refine ⟨o,ho,hlt,?_,fun j hj => ?_⟩
  ·simp only [Array.getD_eq_getD_getElem?] at h1 ⊢
   rw [Array.getElem?_eq_getElem (by omega)] at h1 ⊢
   simpa using h1
  ·obtain ⟨e,he,hb1,rfl⟩:=zcF.1 hj
   exact hbe e he hb1
 have hclose:∀ (listed:Array Bool) (i:Nat) (o:Oper),listed.size = ops.size → ops[i]? = some o → i < ops.size → (∀ j ∈ zbc o,listed.getD j false = true) → zcc ops (fun k => listed.getD k false) → zcc ops (fun k => (listed.setIfInBounds i true).getD k false):=by
  intro listed i o hsz ho hlt hbef hc k ok hok2 hk2 j hj
  have hk2:(listed.setIfInBounds i true).getD k false = true:=hk2
  show (listed.setIfInBounds i true).getD j false = true
  rw [hgetD listed i hsz hlt] at hk2 ⊢
  simp only [Bool.or_eq_true] at hk2
  rcases hk2 with hk2 | hk2
  ·have hcj:listed.getD j false = true:=hc k ok hok2 hk2 j hj
   rw [hcj]; rfl
  ·have:=Nat.eq_of_beq_eq_true hk2
   subst this
   rw [ho] at hok2
   simp only [Option.some.injEq] at hok2
   subst hok2
   rw [hbef j hj]; rfl
 have htail:∀ (listed:Array Bool) (i:Nat) (o:Oper),ops[i]? = some o → p ≤ i → zcc ops (fun k => listed.getD k false) → (∀ j ∈ zbc o,listed.getD j false = true) → ∀ j,j < i → listed.getD j false = true:=by
  intro listed i o ho hge hc hbef j hj
  have hlt:i < ops.size:=(Array.getElem?_eq_some_iff.1 ho).1
  have h1:=zbq htl i hlt
  simp only [Bool.or_eq_true] at h1
  rcases h1 with h1 | h1
  ·have:=Nat.le_of_ble_eq_true h1; omega
  ·exact (zcD hpre hc (i + 1) i o (by omega) ho hbef j (zbO.1 (zbq h1 j hj))).1
 -- the tail
 have tail:∀ (fuel m:Nat) (listed:Array Bool) (a:Act) (w:World),listed.size = ops.size → p ≤ m → m ≤ ops.size → ops.size - m ≤ fuel → (∀ j,j < ops.size → listed.getD j false = Nat.ble (j + 1) m) → zcc ops (fun k => listed.getD k false) →
   wpOps c.P ops Q (List.range' m (ops.size - m)) a w → wpAny c.P .any ops Q fuel listed a w:=by
  intro fuel
  induction fuel with
  | zero =>
   intro m listed a w hsz hm1 hm2 hf hl hc hw
   have:ops.size - m = 0:=by omega
   rw [this] at hw
   refine ⟨?_,hw⟩
   cases hr:Region.ready .any ops listed with
   | nil => rfl
   | cons i r =>
    obtain ⟨o,ho,hlt,hLi,_⟩:=hfromReady listed hsz i (by rw [hr]; simp)
    rw [hl i hlt,Nat.ble_eq_true_of_le (by omega)] at hLi
    cases hLi
  | succ fuel ih =>
   intro m listed a w hsz hm1 hm2 hf hl hc hw
   refine ⟨fun hr => ?_,fun i hi => ?_⟩
   ·by_cases hms:m = ops.size
    ·have:ops.size - m = 0:=by omega
     rw [this] at hw
     exact hw
    ·exfalso
     have hmlt:m < ops.size:=by omega
     have:m ∈ Region.ready .any ops listed:=by
      refine hready listed hsz m hmlt ?_ fun o ho j hj => ?_
      ·rw [hl m hmlt]
       cases hb:Nat.ble (m + 1) m with
       | false => rfl
       | true => have:=Nat.le_of_ble_eq_true hb; omega
      ·have hjm:=(zh1 hpre m o ho).1 j hj
       rw [hl j (by omega)]
       exact Nat.ble_eq_true_of_le hjm
     rw [hr] at this; cases this
   ·obtain ⟨o,ho,hlt,hLi,hbef⟩:=hfromReady listed hsz i hi
    have him:m ≤ i:=by
     rw [hl i hlt] at hLi
     apply Nat.le_of_not_lt
     intro h
     rw [Nat.ble_eq_true_of_le h] at hLi; cases hLi
    have:i = m:=by
     apply Classical.byContradiction
     intro hne
     have:=htail listed i o ho (by omega) hc hbef m (by omega)
     rw [hl m (by omega)] at this
     have:=Nat.le_of_ble_eq_true this
     omega
    subst this
    rw [show ops.size - i = (ops.size - (i + 1)) + 1 by omega,List.range'_succ,wpOps_cons] at hw
    refine wpOp_mono (fun a w h => ?_) hw
    refine ih (i + 1) _ a w (by simpa using hsz) (by omega) (by omega) (by omega) (fun j hj => ?_) (hclose listed i o hsz ho hlt hbef hc) h
    rw [hgetD listed i hsz hlt,hl j hj]
    by_cases hji:j = i
    ·subst hji
     rw [Nat.beq_refl,Bool.or_true]
     exact (Nat.ble_eq_true_of_le (Nat.le_refl _)).symm
    ·have hbn:Nat.beq j i = false:=by
      cases hb:Nat.beq j i with
      | false => rfl
      | true => exact absurd (Nat.eq_of_beq_eq_true hb) hji
     rw [hbn,Bool.or_false]
     by_cases hji2:j + 1 ≤ i
     ·rw [Nat.ble_eq_true_of_le hji2,Nat.ble_eq_true_of_le (by omega)]
     ·have e1:Nat.ble (j + 1) i = false:=by
       cases hb:Nat.ble (j + 1) i with
       | false => rfl
       | true => exact absurd (Nat.le_of_ble_eq_true hb) hji2
      have e2:Nat.ble (j + 1) (i + 1) = false:=by
       cases hb:Nat.ble (j + 1) (i + 1) with
       | false => rfl
       | true => have:=Nat.le_of_ble_eq_true hb; omega
      rw [e1,e2]
 have hclosedlt:∀ (listed:Array Bool),zcc ops (fun k => listed.getD k false) → (∃ j,j < p ∧ listed.getD j false = false) → ∀ i,i < ops.size → p ≤ i → listed.getD i false = false:=by
  intro listed hc ⟨j,hj,hjf⟩ i hi hge
  cases hLi:listed.getD i false with
  | false => rfl
  | true =>
   obtain ⟨o,ho⟩:∃ o,ops[i]? = some o:=⟨ops[i],by rw [Array.getElem?_eq_getElem]⟩
   have:=htail listed i o ho hge hc (fun k hk => hc i o ho hLi k hk) j (by omega)
   rw [hjf] at this; cases this
 have key:∀ (fuel:Nat) (listed:Array Bool) (a:Act) (w:World),listed.size = ops.size → (List.range ops.size).countP (fun k => !listed.getD k false) ≤ fuel → zcc ops (fun k => listed.getD k false) →
   (∀ i,i < ops.size → p ≤ i → listed.getD i false = false) → J (fun k => listed.getD k false) a w → wpAny c.P .any ops Q fuel listed a w:=by
  intro fuel
  induction fuel with
  | zero =>
   intro listed a w hsz hcnt hc hno hinv
   have hl:∀ i,i < ops.size → listed.getD i false = true:=by
    have h0:=List.countP_eq_zero.1 (Nat.le_zero.1 hcnt)
    intro i hi
    have:=h0 i (List.mem_range.2 hi)
    simpa using this
   have hps:p = ops.size:=by
    apply Classical.byContradiction
    intro hne
    have h1:=hno p (by omega) (Nat.le_refl _)
    rw [hl _ (by omega)] at h1; cases h1
   refine tail 0 ops.size listed a w hsz (by omega) (Nat.le_refl _) (by omega) (fun j hj => ?_) hc ?_
   ·rw [hl j hj,Nat.ble_eq_true_of_le (by omega)]
   ·rw [Nat.sub_self]
    have:=hend a w (hJ _ _ a w (fun k hk => by rw [hl k hk,Nat.ble_eq_true_of_le (by omega)]) hinv)
    rw [hps,Nat.sub_self] at this
    exact this
  | succ fuel ih =>
   intro listed a w hsz hcnt hc hno hinv
   by_cases hall:∀ j,j < p → listed.getD j false = true
   ·
    have hl:∀ j,j < ops.size → listed.getD j false = Nat.ble (j + 1) p:=by
     intro j hj
     by_cases hjl:j < p
     ·rw [hall j hjl,Nat.ble_eq_true_of_le hjl]
     ·rw [hno j hj (by omega)]
      cases hb:Nat.ble (j + 1) p with
      | false => rfl
      | true => have:=Nat.le_of_ble_eq_true hb; omega
    refine tail (fuel + 1) p listed a w hsz (Nat.le_refl _) hlen' ?_ hl hc ?_
    ·refine Nat.le_trans ?_ hcnt
     have e:(List.range ops.size) = List.range p ++ (List.range' p (ops.size - p)):=by
      have h:=List.range'_append_1 (s:=0) (m:=p) (n:=ops.size - p)
      rw [Nat.zero_add,Nat.add_sub_cancel' hlen'] at h
      rw [List.range_eq_range',List.range_eq_range',h]
     rw [e,List.countP_append]
     have:(List.range' p (ops.size - p)).countP (fun k => !listed.getD k false) = (List.range' p (ops.size - p)).length:=by
      rw [List.countP_eq_length]
      intro k hk
      rw [List.mem_range'_1] at hk
      rw [hno k (by omega) hk.1]; rfl
     rw [this,List.length_range']
     omega
    ·exact hend a w (hJ _ _ a w (fun k hk => hl k hk) hinv)
   ·have hex:∃ j,j < p ∧ listed.getD j false = false:=by
     apply Classical.byContradiction
     intro hne
     apply hall
     intro j hj
     cases hb:listed.getD j false with
     | true => rfl
     | false => exact absurd ⟨j,hj,hb⟩ hne
    refine ⟨fun hr => ?_,fun i hi => ?_⟩
    ·
     exfalso
     obtain ⟨j,hj,hjf⟩:=hex
     have:∀ m i,i < m → i < ops.size → listed.getD i false = true:=by
      intro m
      induction m with
      | zero => intro i h; omega
      | succ m ih =>
       intro i hi1 hi2
       cases hcc:listed.getD i false with
       | true => rfl
       | false =>
        exfalso
        have:i ∈ Region.ready .any ops listed:=hready listed hsz i hi2 hcc fun o ho k hk => by
         have:=(zh1 hpre i o ho).1 k hk
         exact ih k (by omega) (by omega)
        rw [hr] at this; cases this
     rw [this (j + 1) j (by omega) (by omega)] at hjf
     cases hjf
    ·obtain ⟨o,ho,hlt,hLi,hbef⟩:=hfromReady listed hsz i hi
     have hil:i < p:=by
      apply Nat.lt_of_not_le
      intro hge
      obtain ⟨j,hj,hjf⟩:=hex
      rw [htail listed i o ho hge hc hbef j (by omega)] at hjf
      cases hjf
     refine hstep (fun k => listed.getD k false) hc i o ho hil hLi hbef hno a w hinv Q _ fun a' w' hinv' => ?_
     refine ih _ _ _ (by simpa using hsz) ?_ (hclose listed i o hsz ho hlt hbef hc) (fun k hk1 hk2 => ?_) ?_
     ·have:=hcntlt listed i hsz hlt hLi
      omega
     ·rw [hgetD listed i hsz hlt,hno k hk1 hk2,Bool.false_or]
      cases hb:Nat.beq k i with
      | false => rfl
      | true => have:=Nat.eq_of_beq_eq_true hb; omega
     ·exact hJ _ _ a' w' (fun k _ => (hgetD listed i hsz hlt k).symm) hinv'
 have hrep:∀ k,(Array.replicate ops.size false).getD k false = false:=by
  intro k
  simp only [Array.getD_eq_getD_getElem?,Array.getElem?_replicate]
  split <;> rfl
 obtain ⟨e,a',w',⟨rfl,hq⟩,harr⟩:=wp_region_any (id:=id) hm (key ops.size _ a { w with drawn:=w.drawn + 1 } (by simp) (by
  refine Nat.le_trans (List.countP_le_length ..) ?_
  simp) (fun i o _ h => by
   have h:(Array.replicate ops.size false).getD i false = true:=h
   rw [hrep] at h
   cases h) (fun i _ _ => hrep i) (hJ _ _ _ _ (fun k _ => (hrep k).symm) (hbeg K ρ _ _ (zlf hi _)))) b k cs
 obtain ⟨v,w'',fr,hp,hst,h3⟩:=hq b cs hb hk
 exact ⟨v,w'',fr,hp,Steps.trans harr hst,h3⟩
end Go.AI


namespace Go.AI
structure Base (E0 E:Env) (O:List Heap):Prop where
 K:E0.K0.le E.K0
 ρ:∀ d,E.ρ0 d = E0.ρ0 d
 pr:∀ b,E0.pr b → E.pr b
 new:∀ b o x,E.K0 b o = some x → E0.K0 b o = some x ∨ ¬ E0.pr b
 size:E0.w0.heap.size ≤ E.w0.heap.size
 old:∀ b,E0.pr b → (∀ dep nm ob,zab O dep nm = some ob → zat (E0.ρ0 dep nm) ob → (E0.ρ0 dep nm).block ≠ b) → E.w0.heap[b]? = E0.w0.heap[b]?
 rest:E.w0.tape = E0.w0.tape ∧ E.w0.os = E0.w0.os ∧ E.w0.output = E0.w0.output
section
variable {E0 E:Env} {K:Kn} {ρ:Nat → Nat → Loc} {H:Heap} {O:List Heap} {w:World}
end
inductive RowOf (E0 E:Env) (O:List Heap) (ty es:Nat):Value → List (List I) → Prop
 | nil:RowOf E0 E O ty es (.slice none 0 0) []
 | row {b n cap:Nat} {c:Array Value} {xs:List (List I)} (hn:xs.length = n) (hd:∀ d ∈ xs,d.length = es) (hp:E.pr b) (hp0:¬ E0.pr b)
   (ho:∀ dep nm ob,zab O dep nm = some ob → zat (E0.ρ0 dep nm) ob → (E0.ρ0 dep nm).block ≠ b)
   (hc:E.w0.heap[b]? = some (.cells c ty (0,0))) (hs:c.size = cap * es) (hcap:n ≤ cap) (hm:cap ≤ maxLen) (hr:RepL E.K0 (c.toList.take (n * es)) xs.flatten)
   (hk:∀ o,o < n * es → E.K0 b o = c[o]?) (hk':∀ o,n * es ≤ o → E.K0 b o = none):RowOf E0 E O ty es (.slice (some ⟨b,0,none⟩) n cap) xs
structure RowsO (E0 E:Env) (O:List Heap) (ty es:Nat) (vs:List Value) (xss:List (List (List I))):Prop where
 base:Base E0 E O
 len:vs.length = xss.length
 row:∀ (j:Nat) v xs,vs[j]? = some v → xss[j]? = some xs → RowOf E0 E O ty es v xs
 apart:∀ (i j:Nat) v v' b,i ≠ j → vs[i]? = some v → vs[j]? = some v' → v.ownBlock = some b → v'.ownBlock ≠ some b
section
variable {P:Program} {K:Kn} {w:World}
end
end Go.AI


namespace Go.AI
section
variable {P:Program} {E0 E:Env} {K:Kn} {ρ:Nat → Nat → Loc} {s:St} {a:Act} {w:World} {H:Heap} {O:List Heap} {ty es:Nat} {vs:List Value} {xss:List (List (List I))}
open Classical in
noncomputable def plusK (K:Kn) (b m:Nat) (c:Array Value):Kn:=fun b' o => if b' = b ∧ o < m then c[o]? else K b' o
end
end Go.AI


namespace Go.AI
section
variable {E0 E:Env} {K:Kn} {ρ:Nat → Nat → Loc} {H:Heap} {O:List Heap} {w:World}
theorem HInv.reob {nm:Nat} {ob ob':Ob} (h:HInv E K ρ (H :: O) w) (ho:look H nm = some ob) (hs:ob'.sh = ob.sh) (hbk:zat (ρ 0 nm) ob' → zat (ρ 0 nm) ob)
  (hown:OwnAt K ρ (shape (H :: O)) w (ρ 0 nm) ob → OwnAt K ρ (shape (H :: O)) w (ρ 0 nm) ob'):HInv E K ρ (((nm,ob') :: H) :: O) w:=by
 have ho':zab (H :: O) 0 nm = some ob:=by simpa [zab] using ho
 have e0:(fun d n => ρ (0 + d) n) = ρ:=by funext d n; rw [Nat.zero_add]
 have h0:=h.own 0 nm _ ho'
 rw [e0,List.drop_zero] at h0
 have hsh:shape (((nm,ob') :: H) :: O) = shape (H :: O):=za1 ho hs
 have hdrop:∀ d,shape ((((nm,ob') :: H) :: O).drop d) = shape ((H :: O).drop d):=by
  intro d
  cases d with
  | zero => exact hsh
  | succ d => rfl
 refine ⟨h.holds,fun d n' x e => ?_,fun d n1 o1 d' n2 o2 e1 e2 b1 b2 hbe => ?_,h.size,fun b hb hno => h.old b hb fun d n' x e => hno d n' x (by simpa [zab] using e),fun n' x e hb => ?_,h.outer,h.Kle,h.Knew,h.rest⟩
 ·rw [hdrop]
  rcases zbH (ob:=ob) e with ⟨rfl,rfl,rfl⟩ | ⟨_,e'⟩
  ·rw [e0,List.drop_zero]; exact hown h0
  ·exact h.own _ _ _ e'
 ·have old:∀ {d n' x},zab (((nm,ob') :: H) :: O) d n' = some x → zat (ρ d n') x → ∃ y,zab (H :: O) d n' = some y ∧ zat (ρ d n') y:=by
   intro d n' x e hb
   rcases zbH (ob:=ob) e with ⟨rfl,rfl,rfl⟩ | ⟨_,e'⟩
   ·exact ⟨_,ho',hbk hb⟩
   ·exact ⟨_,e',hb⟩
  obtain ⟨y1,a1,c1⟩:=old e1 b1
  obtain ⟨y2,a2,c2⟩:=old e2 b2
  exact h.inj _ _ _ _ _ _ a1 a2 c1 c2 hbe
 ·rcases zbH (ob:=ob) e with ⟨_,rfl,rfl⟩ | ⟨_,e'⟩
  ·exact h.loc _ _ ho' (hbk hb)
  ·exact h.loc _ _ e' hb
end
section
variable {c:Cx} {s:St} {k:List Item} {ops:Array Oper} {rest:List Nat} {o:Oper} {E0:Env} {H:Heap} {O:List Heap}
end
end Go.AI


namespace Go.AI
section
variable {E:Env} {K:Kn} {ρ:Nat → Nat → Loc} {H:Heap} {O:List Heap} {w:World}
end
end Go.AI


namespace Go.AI
theorem Inv.sameX {E:Env} {K:Kn} {ρ:Nat → Nat → Loc} {O:List Heap} {n:Nat} {x y:SH} {a:Act} {w:World} (hi:Inv E K ρ (St.of O n x) a w) (h1:∀ t,look y.1 t = look x.1 t) (h2:∀ nm,look y.2 nm = look x.2 nm):Inv E K ρ (St.of O n y) a w:=by
 have hh:HInv E K ρ (x.2 :: O) w:=hi.h
 refine ⟨hh.same fun nm => h2 nm,hi.defers,hi.size,fun t d e => ?_⟩
 have hsh:shape (St.of O n y).S = shape (x.2 :: O):=zdb fun nm => h2 nm
 rw [hsh]
 have e':look y.1 t = some d:=e
 rw [h1] at e'
 exact hi.slots t d e'
end Go.AI


namespace Go.AI
end Go.AI


namespace Go.AI
structure FlOK (c:Cx) (ops:Array Oper) (O:List Heap) (n:Nat) (x:SH) (o:Oper) (p:Pl):Prop where
 w:zaH ops (St.of O n (zax ops o x)) o = some true
 r:p.rem = zbg (St.of O n (zax ops o x)) o
 d:Does c o (St.of O n (zax ops o x)) (PQ O n (zax ops o x) p) (exec c.T (St.of O n (zax ops o x)) o)
theorem zsW {c:Cx} (hT:TOk c.P c.T) (hm:c.P.follows .mixedOrders = true) {id:Nat} {ops:Array Oper} {O O':List Heap} {n:Nat} {x0:SH} {ps:List Pl} {k:List Item} {oF:Oper}
  (hoF:ops[ps.length]? = some oF) (hg:oF.guard = none)
  (hF:∀ x:SH,(∀ t d,look (zax ops oF (zcy ps x0)).1 t = some d → look x.1 t = some d) → Does c oF (St.of O n x) (fun s' => s' = St.of O' n x) (exec c.T (St.of O n x) oF))
  (hok:okT ops (ps ++ [noPl]) x0 = true) (hch:zeO c ops O n ops.toList ps x0)
  (hfl:∀ i o p,ops[i]? = some o → ps[i]? = some p → i ∉ getL (zcW ops.toList []) ps.length → zc7 c ops O' n o (zax ops o (zcy (ps.take i) x0)) p)
  (hend:RG c ops (List.range' (ps.length + 1) (ops.size - (ps.length + 1))) (St.of O' n (zcy ps x0)) k):Rch c (.code (.region id ops true) :: k) (St.of O n x0):=by
 have hun:zi7 ops (zcW ops.toList []) = true ∧ zqG ops (zcW ops.toList []) (ps.length + 1) = true ∧ ps.length + 1 ≤ ops.size ∧
   ∀ i o p,ops.toList[i]? = some o → (ps ++ [noPl])[i]? = some p → okI ops (zcW ops.toList []) (ps ++ [noPl]) x0 (0 + i) o (zcy ((ps ++ [noPl]).take i) x0) p = true:=by
  have h:=hok
  simp only [okT,Bool.and_eq_true] at h
  obtain ⟨⟨hpre,hgo⟩,htl⟩:=h
  obtain ⟨hlen,hget⟩:=zg8 hgo
  exact ⟨hpre,by simpa using htl,by simpa using hlen,hget⟩
 obtain ⟨hpre,htl,hlen,hget⟩:=hun
 have hpl:pl (ps ++ [noPl]) ps.length = noPl:=by
  unfold pl
  rw [List.getElem?_append_right (Nat.le_refl _),Nat.sub_self]
  rfl
 refine zoz (p:=ps.length + 1) hm rfl hpre htl hlen (fun L a w => ∃ K ρ,Inv c.E K ρ (St.of (if L ps.length = true then O' else O) n (fold (ps ++ [noPl]) (ord ops.size L) x0)) a w) ?_ ?_ ?_ ?_
 ·rintro L L' a w hL ⟨K,ρ,hi⟩
  refine ⟨K,ρ,?_⟩
  rw [← hL _ (by omega),← zfv fun k hk => hL k hk]
  exact hi
 ·intro K ρ a w hi
  refine ⟨K,ρ,?_⟩
  have e:ord ops.size (fun _ => false) = []:=by simp [ord]
  rw [e]
  exact hi
 ·rintro L hc i o ho hip hLi hbef hno a w ⟨K,ρ,hinv⟩ Q next hnext
  by_cases hie:i = ps.length
  ·subst hie
   rw [hLi,if_neg (by decide)] at hinv
   rw [hoF] at ho
   simp only [Option.some.injEq] at ho
   subst ho
   have hok1:=hget ps.length oF noPl (by simpa using hoF) (by rw [List.getElem?_append_right (Nat.le_refl _),Nat.sub_self]; rfl)
   rw [Nat.zero_add] at hok1
   have e:(ps ++ [noPl]).take ps.length = ps:=by simp
   rw [e] at hok1
   have e2:zcy ps x0 = fold (ps ++ [noPl]) (ord ops.size fun k => Nat.ble (k + 1) ps.length) x0:=by
    rw [zcY (n:=ops.size) (by omega),zbJ _ (by simp),e]
   have hok2:okI ops (zcW ops.toList []) (ps ++ [noPl]) x0 ps.length oF (zcy ps x0) (pl (ps ++ [noPl]) ps.length) = true:=by
    rw [hpl]
    exact hok1
   obtain ⟨hf,hy1,hy2⟩:=fits hpre hoF hok2 e2 hc hLi hbef
   have hw:zaH ops (St.of O n (fold (ps ++ [noPl]) (ord ops.size L) x0)) oF = some true:=by unfold zaH; rw [hg]
   unfold wpOp
   rw [hoF]
   dsimp only
   rw [zcr hinv hw,if_pos rfl]
   refine .inl ?_
   refine zbs hT (hF _ fun t d e => hf.v1 t d e) K ρ a w hinv _ _ fun v w' s' K' ρ' _ _ hi' hq => hnext _ _ ⟨K',ρ',?_⟩
   have e3:(if (L ps.length || Nat.beq ps.length ps.length) = true then O' else O) = O':=by
    rw [if_pos (by rw [beq_of_eq rfl,Bool.or_true])]
   show Inv c.E K' ρ' (St.of (if (L ps.length || Nat.beq ps.length ps.length) = true then O' else O) n _) (a.put oF.dst v) w'
   rw [e3]
   subst hq
   refine Inv.sameX hi' (fun t => ?_) fun nm => ?_
   ·rw [hy1,hpl]; simp [noPl,Pl.ap]
   ·rw [hy2,hpl]; simp [noPl,Pl.ap,rmv]
  ·have hil:i < ps.length:=by omega
   have hp:(ps ++ [noPl])[i]? = some ps[i]:=by rw [List.getElem?_append_left hil,List.getElem?_eq_getElem hil]
   have hok1:=hget i o _ (by simpa using ho) hp
   have e:(ps ++ [noPl]).take i = ps.take i:=by rw [List.take_append_of_le_length (by omega)]
   have hbq:Nat.beq ps.length i = false:=by
    cases hb:Nat.beq ps.length i with
    | false => rfl
    | true => exact absurd (Nat.eq_of_beq_eq_true hb).symm hie
   have hst:zc7 c ops (if L ps.length = true then O' else O) n o (zax ops o (zcy (ps.take i) x0)) ps[i]:=by
    cases hL:L ps.length with
    | false =>
     rw [if_neg (by decide)]
     exact zf2 hch i o _ (by simpa using ho) (List.getElem?_eq_getElem hil)
    | true =>
     rw [if_pos rfl]
     refine hfl i o _ ho (List.getElem?_eq_getElem hil) fun hmem => ?_
     have:=(zcD hpre hc (ps.length + 1) ps.length oF (Nat.lt_succ_self _) hoF (fun j hj => hc ps.length oF hoF hL j hj) i hmem).1
     rw [this] at hLi; cases hLi
   rw [← e] at hst
   have hpl':pl (ps ++ [noPl]) i = ps[i]:=by simp [pl,hp]
   rw [Nat.zero_add] at hok1
   rw [← zbJ i (by simp; omega),← zcY (n:=ops.size) (by omega)] at hok1 hst
   rw [← hpl'] at hok1 hst
   obtain ⟨hf,hy1,hy2⟩:=fits hpre ho hok1 rfl hc hLi hbef
   refine zgn ho hst hf hy1 hy2 hinv fun a' w' K' ρ' hinv' => ?_
   refine hnext a' w' ⟨K',ρ',?_⟩
   have e3:(L ps.length || Nat.beq ps.length i) = L ps.length:=by rw [hbq,Bool.or_false]
   show Inv c.E K' ρ' (St.of (if (L ps.length || Nat.beq ps.length i) = true then O' else O) n _) a' w'
   rw [e3]
   exact hinv'
 ·rintro a w ⟨K,ρ,hinv⟩
  rw [if_pos (Nat.ble_eq_true_of_le (Nat.le_refl _)),zcY (n:=ops.size) hlen,zbJ _ (by simp),List.take_of_length_le (by simp)] at hinv
  have e:zcy (ps ++ [noPl]) x0 = zcy ps x0:=by
   unfold zcy
   rw [List.foldl_append]
   simp [noPl,Pl.ap,rmv]
  rw [e] at hinv
  exact hend K ρ a w hinv
theorem zjB {c:Cx} {s:St} {o:Oper} {t nm d n j:Nat} {px pv:Operand} {ti:TI} {es:Nat} {ty:Nat} {xs:List (List I)} {cs:List D} {l:List I} (hop:o.op = .store t px pv) (hdn:o.dst = none) (h1:look c.T t = some ti) (hx:evD s px = .own (d + 1) nm j 0) (hv:evD s pv = .agg cs) (hl:D.toIs cs = some l)
  (hc:(Nat.beq cs.length ti.size && D.ones cs) = true) (hes:Nat.beq ti.size es = true) (hS:zab s.S (d + 1) nm = some (.arr ty es n xs true)):Does c o s (fun s' => s' = { s with S:=setAt s.S (d + 1) nm (.arr ty es n (xs.set j l) true) }) (exec c.T s o):=by
 have e:exec c.T s o = zcp c.T s t (.own (d + 1) nm j 0) (.agg cs):=by
  unfold exec
  rw [hop]
  simp only [hx,hv,hdn]
 rw [e]
 unfold zcp
 rw [h1]
 have hcells:(D.agg cs).cells = cs:=rfl
 simp only [hcells]
 rw [hc]
 show Does c o s _ (zbS s (d + 1) nm _)
 unfold zbS
 refine ⟨_,hS,?_⟩
 simp only [hl,hes]
 refine ⟨?_,rfl⟩
 unfold turns
 rw [hop]
theorem zmG {c:Cx} (hT:TOk c.P c.T) {ops:Array Oper} {O:List Heap} {n:Nat} {o:Oper} {v:SH} {t:Nat} {d:D} (hw:zaH ops (St.of O n v) o = some true) (ht:o.dst = some t) (hn:Nat.ble (t + 1) n = true) (hex:exec c.T (St.of O n v) o = .val d) (hro:roB o = true) :
  zc7 c ops O n o v ⟨[(t,d)],[],none⟩:=by
 refine zdW hw (zhj hro).symm fun E hE => zbs (c:={ c with E:=E }) hT ?_
 rw [show exec ({ c with E:=E }:Cx).T (St.of O n v) o = .val d from hex]
 show match o.dst with
  | some t => t < (St.of O n v).n ∧ _
  | none => False
 rw [ht]
 refine ⟨Nat.le_of_ble_eq_true hn,rfl,rfl,fun t' d' e => ?_⟩
 obtain ⟨rfl,rfl⟩:=zaC e
 exact .inr (.inl (by simp [St.set,zac]))
def FDS (c:Cx) (id:Nat) (ops:Array Oper) (O:List Heap) (n:Nat) (x0:SH) (k:List Item) (x:SH) (ps:List Pl):Prop:=
 x = zcy ps x0 → zeO c ops O n ops.toList ps x0 → Rch c (.code (.region id ops true) :: k) (St.of O n x0)
theorem zhk {c:Cx} {s:St} {k:List Item} {ops:Array Oper} (hT:TOk c.P c.T) (m:Nat) {id:Nat} {O:List Heap} {H:Heap} (hS:s.S = H :: O)
  (h:GE c ops O s.n (FDS c id ops O s.n (s.σ,H) k) (runS c.T ops O s.n 0 (ops.toList.take m) (s.σ,H) [])):GM c (.drawn id ops s k):=by
 obtain ⟨qs,h1,h2⟩:=za4 (c:=c) hT _ _ _ _ h.h
 rw [List.nil_append] at h2
 have hs:s = St.of O s.n (s.σ,H):=by
  cases s
  simp only at hS
  subst hS
  rfl
 refine ⟨?_⟩
 show Rch c (.code (.region id ops true) :: k) s
 rw [hs]
 exact h2 rfl (zgO h1)
theorem ztF {c:Cx} (hT:TOk c.P c.T) (hfn:c.P.funcs[c.f]? = some c.fn) (hm:c.P.follows .mixedOrders = true) {id:Nat} {ops:Array Oper} {O:List Heap} {n:Nat} {x0 x:SH} {acc:List Pl} {k:List Item} {oF:Oper} {N:Nat} {t tx tv nm d nn j:Nat} {ti:TI} {es ty:Nat} {xs:List (List I)} {cs:List D} {l0:List I} (l:List Nat)
  (fl:List Nat) (hN:acc.length = N) (hoF:ops[N]? = some oF) (hg:oF.guard = none) (hdn:oF.dst = none) (hop:oF.op = .store t (.tmp tx) (.tmp tv)) (h1:look c.T t = some ti) (hx:look (zax ops oF x).1 tx = some (.own (d + 1) nm j 0)) (hv:look (zax ops oF x).1 tv = some (.agg cs)) (hl0:D.toIs cs = some l0)
  (hc:(Nat.beq cs.length ti.size && D.ones cs) = true) (hes:Nat.beq ti.size es = true) (hO:zab O d nm = some (.arr ty es nn xs true))
  (hok:okT ops (acc ++ [noPl]) x0 = true)
  (hfi:allN N (fun i => memN fl i || memN (getL (zcW ops.toList []) N) i) = true)
  (hfl:∀ i ∈ fl,∃ o t' d',ops[i]? = some o ∧ acc[i]? = some ⟨[(t',d')],[],none⟩ ∧ zaH ops (St.of (setAt O d nm (.arr ty es nn (xs.set j l0) true)) n (zax ops o (zcy (acc.take i) x0))) o = some true ∧ o.dst = some t' ∧ Nat.ble (t' + 1) n = true ∧ exec c.T (St.of (setAt O d nm (.arr ty es nn (xs.set j l0) true)) n (zax ops o (zcy (acc.take i) x0))) o = .val d' ∧ roB o = true)
  (hl:List.range' (N + 1) (ops.size - (N + 1)) = l)
  (hend:GM c (zgE x fun x => run c.T c.stop 1000 (.inRegion ops l :: k) (St.of (setAt O d nm (.arr ty es nn (xs.set j l0) true)) n x))) :
  GE c ops O n (FDS c id ops O n x0 k) (.done x acc):=by
 subst hl
 subst hN
 refine ⟨?_⟩
 show FDS c id ops O n x0 k x acc
 intro hx0 hch
 subst hx0
 refine zsW (O':=setAt O d nm (.arr ty es nn (xs.set j l0) true)) hT hm hoF hg (fun x' hsub => ?_) hok hch (fun i o p ho hp hni => ?_) ?_
 rotate_left 1
 ·have hil:i < acc.length:=(List.getElem?_eq_some_iff.1 hp).1
  have h:=zbq hfi i hil
  simp only [Bool.or_eq_true] at h
  rcases h with h | h
  ·obtain ⟨o',t',d',f1,f2,f3,f4,f5,f6,f7⟩:=hfl i (zbO.1 h)
   rw [ho] at f1
   obtain rfl:=Option.some.inj f1
   rw [hp] at f2
   obtain rfl:=Option.some.inj f2
   exact zmG hT f3 f4 f5 f6 f7
  ·exact absurd (zbO.1 h) hni
 rotate_left 1
 ·have e1:=hsub _ _ hx
  have e2:=hsub _ _ hv
  refine zjB (s:=St.of O n x') hop hdn h1 ?_ ?_ hl0 hc hes ?_
  ·show St.get (St.of O n x') tx = _
   unfold St.get
   have:look (St.of O n x').σ tx = some (.own (d + 1) nm j 0):=e1
   rw [this]
  ·show St.get (St.of O n x') tv = _
   unfold St.get
   have:look (St.of O n x').σ tv = some (.agg cs):=e2
   rw [this]
  ·exact hO
 ·have h:=hend.h
  rw [zfP] at h
  exact zaR hT hfn 1000 (.inRegion ops _ :: k) _ h
end Go.AI


namespace Go.AI
abbrev bI (b:Bool):I:=.v (.bool b)
abbrev zmE (l:List ByteArray):I:=.sl 1 l.length (l.map fun s => [strI s])
structure Evt where
 name:ByteArray
 c:Bool
 o:Bool
 f:Bool
 fault:Int
abbrev evtI (x:Evt):List I:=[strI x.name,bI x.c,bI x.o,bI x.f,vi x.fault]
abbrev zce (l:List Evt):I:=.sl 5 l.length (l.map evtI)
structure Tpl where
 name:ByteArray
 locs:List ByteArray
 evs:List ByteArray
 mach:Ext
abbrev tplI (x:Tpl):List I:=[strI x.name,zmE x.locs,zmE x.evs,zcO x.mach.alpha,vi x.mach.locs,vi x.mach.init,zcO x.mach.marked,vrsI x.mach.vars,.sl 8 x.mach.moves.length (x.mach.moves.map mvI)]
abbrev ziX (l:List Tpl):I:=.sl 9 l.length (l.map tplI)
structure Ins where
 name:ByteArray
 tpl:ByteArray
 evs:List ByteArray
abbrev insI (x:Ins):List I:=[strI x.name,strI x.tpl,zmE x.evs]
abbrev zcw (l:List Ins):I:=.sl 3 l.length (l.map insI)
abbrev NLc:=ByteArray × ByteArray
abbrev nlcI (x:NLc):List I:=[strI x.1,strI x.2]
structure NEx where
 name:ByteArray
 locals:List NLc
abbrev nexI (x:NEx):List I:=[strI x.name,.sl 2 x.locals.length (x.locals.map nlcI)]
abbrev zhb (l:List NEx):I:=.sl 2 l.length (l.map nexI)
abbrev NTm:=ByteArray × Int
abbrev ntmI (x:NTm):List I:=[strI x.1,vi x.2]
structure NCn where
 name:ByteArray
 terms:List NTm
 bound:Int
abbrev ncnI (x:NCn):List I:=[strI x.name,.sl 2 x.terms.length (x.terms.map ntmI),vi x.bound]
abbrev zh6 (l:List NCn):I:=.sl 3 l.length (l.map ncnI)
structure Mdl where
 name:ByteArray
 evs:List Evt
 tpls:List Tpl
 comps:List Ins
 reqs:List Ins
 excs:List NEx
 cons:List NCn
abbrev mdlC (m:Mdl):List D:=[.i (strI m.name),.i (zce m.evs),.i (ziX m.tpls),.i (zcw m.comps),.i (zcw m.reqs),.i (zhb m.excs),.i (zh6 m.cons)]
abbrev mdlD (m:Mdl):D:=.agg (mdlC m)
def sB (a b:ByteArray):Bool:=a.data.toList == b.data.toList
theorem zfo {a b:ByteArray}:sB a b = true ↔ a = b:=by
 unfold sB
 rw [beq_iff_eq]
 constructor
 ·intro h
  exact ByteArray.ext (Array.ext' h)
 ·rintro rfl; rfl
theorem zsQ (a b:ByteArray):sB a b = sB b a:=by
 rw [Bool.eq_iff_iff,zfo,zfo]
 exact ⟨Eq.symm,Eq.symm⟩
theorem zbj (a b:ByteArray):(a.toList == b.toList) = sB a b:=by
 rw [ByteArray.toList_eq,ByteArray.toList_eq]; rfl
def hasB (l:List ByteArray) (s:ByteArray):Bool:=l.any fun x => sB x s
def nmE (before:List ByteArray) (s:ByteArray):Int:=if zaM s = false then 7 else if hasB before s = true then 8 else 0
def nmsE:List ByteArray → List ByteArray → Int
 | _,[] => 0
 | b,s :: r => if nmE b s ≠ 0 then nmE b s else nmsE (b ++ [s]) r
def evE (before:List ByteArray) (x:Evt):Int:=
 if nmE before x.name ≠ 0 then nmE before x.name else if x.fault < 0 ∨ x.fault > 4 then 2 else if x.fault ≠ 0 ∧ (x.c = true ∨ x.o = true) then 13 else 0
def evsE:List ByteArray → List Evt → Int
 | _,[] => 0
 | b,x :: r => if evE b x ≠ 0 then evE b x else evsE (b ++ [x.name]) r
def zjS (l:List Evt):Int:=if l.length > 32 then 3 else evsE [] l
def tplE (x:Tpl):Int:=
 if (x.locs.length:Int) ≠ x.mach.locs then 4 else if nmsE [] x.locs ≠ 0 then nmsE [] x.locs else if nmsE [] x.evs ≠ 0 then nmsE [] x.evs
 else if x.mach.alpha.length ≠ x.evs.length then 6 else if x.mach.alpha ≠ (List.range x.evs.length).map (fun k => ((k:Nat):Int)) then 6 else chk x.mach
def zfK (m:Mdl):List ByteArray → List ByteArray → Int
 | _,[] => 0
 | b,s :: r => if hasB (m.evs.map (·.name)) s = false then 9 else if hasB b s = true then 8 else zfK m (b ++ [s]) r
def insE (m:Mdl) (x:Ins):Int:=
 match m.tpls.find? (fun t => sB t.name x.tpl) with
 | none => 9
 | some t => if x.evs.length ≠ t.evs.length then 4 else zfK m [] x.evs
abbrev Plc:=Int × Int
def za7 {α:Type} (nm:α → ByteArray) (err:α → Int):List ByteArray → List α → Nat → Option (Nat × Int)
 | _,[],_ => none
 | b,x :: r,i => if nmE b (nm x) ≠ 0 then some (i,nmE b (nm x)) else if err x ≠ 0 then some (i,err x) else za7 nm err (b ++ [nm x]) r (i + 1)
def reqE (m:Mdl) (x:Ins):Int:=if insE m x ≠ 0 then insE m x else if x.evs.any (fun s => !hasB (m.comps.flatMap (·.evs)) s) = true then 9 else 0
def zcN (m:Mdl) (x:Ins):Option Tpl:=m.tpls.find? fun t => sB t.name x.tpl
def lcsE (m:Mdl):List ByteArray → List NLc → Int
 | _,[] => 0
 | b,x :: r => match m.comps.find? (fun c => sB c.name x.1) with
  | none => 9
  | some c => if hasB b x.1 = true then 8 else match zcN m c with
   | none => 9
   | some t => if hasB t.locs x.2 = false then 9 else lcsE m (b ++ [x.1]) r
def excE (m:Mdl) (x:NEx):Int:=if x.locals.length = 0 then 12 else lcsE m [] x.locals
def bigB (n:Int):Bool:=decide (n > 65536) || decide (n < -65536)
def tmsE (m:Mdl):List ByteArray → List NTm → Int
 | _,[] => 0
 | b,x :: r => if hasB (m.comps.map (·.name)) x.1 = false then 9 else if hasB b x.1 = true then 8 else if x.2 = 0 ∨ bigB x.2 = true then 2 else tmsE m (b ++ [x.1]) r
def conE (m:Mdl) (x:NCn):Int:=if x.terms.length = 0 then 12 else if tmsE m [] x.terms ≠ 0 then tmsE m [] x.terms else if bigB x.bound = true then 2 else 0
def plc {α:Type} (k:Int) (o:Option (Nat × Int)) (z:α) (f:Plc × Int → α):α:=match o with
 | some (i,e) => f ((k,(i:Int)),e)
 | none => z
def evsP:List Evt → List Evt → Nat → Option (Nat × Int)
 | _,[],_ => none
 | b,x :: r,i => if zjS (b ++ [x]) ≠ 0 then some (i,zjS (b ++ [x])) else evsP (b ++ [x]) r (i + 1)
def mdlE (m:Mdl):Plc × Int:=
 if zaM m.name = false then ((0,0),7) else
 plc 1 (evsP [] m.evs 0) (
  if m.tpls.length > 16 then ((2,16),3) else
  plc 2 (za7 Tpl.name tplE [] m.tpls 0) (
   if m.comps.length = 0 then ((3,0),12) else if m.comps.length > 8 then ((3,8),3) else if m.comps.length + m.reqs.length > 12 then ((4,12 - (m.comps.length:Int)),3) else
   plc 3 (za7 Ins.name (insE m) [] m.comps 0) (
    plc 4 (za7 Ins.name (reqE m) (m.comps.map (·.name)) m.reqs 0) (
     if m.excs.length > 32 then ((5,32),3) else
     plc 5 (za7 NEx.name (excE m) [] m.excs 0) (
      if m.cons.length > 32 then ((6,32),3) else
      plc 6 (za7 NCn.name (conE m) [] m.cons 0) ((0,0),0) id) id) id) id) id) id
end Go.AI


namespace Go.AI
open Go.Proofs
set_option maxRecDepth 20000
theorem zcJ:∀ (k u:Nat),u < 10 ^ (k + 1) → (Lib.decDigits u).length ≤ k + 1
 | 0,u,h => by
  unfold Lib.decDigits
  rw [dif_pos (by omega)]
  simp
 | k + 1,u,h => by
  unfold Lib.decDigits
  split
  ·simp
  ·rw [List.length_append]
   have:=zcJ k (u / 10) (by rw [Nat.pow_succ] at h; omega)
   simp only [List.length_cons,List.length_nil]
   omega
theorem zbI {n:Int} (h0:-9223372036854775808 ≤ n) (h1:n ≤ 9223372036854775807):(zd6 n).size ≤ 21:=by
 show (Lib.itoa n).toArray.size ≤ 21
 simp only [List.size_toArray]
 unfold Lib.itoa
 split
 ·have:=zcJ 19 n.natAbs (by omega)
  simp only [List.length_cons]
  omega
 ·have:=zcJ 19 n.toNat (by omega)
  omega
abbrev i64B (n:Int):Prop:=-9223372036854775808 ≤ n ∧ n ≤ 9223372036854775807
end Go.AI


namespace Go.AI
open Go.Proofs
set_option maxRecDepth 20000
theorem within_iff:∀ {l:List Vr} {xs:List Int},within l xs = true ↔ xs.length = l.length ∧ ∀ i (h:i < l.length) (h':i < xs.length),l[i].low ≤ xs[i] ∧ xs[i] ≤ l[i].high
 | [],[] => by simp [within]
 | [],_ :: _ => by simp [within]
 | _ :: _,[] => by simp [within]
 | v :: r,x :: ys => by
  simp only [within,Bool.and_eq_true,decide_eq_true_eq,within_iff (l:=r) (xs:=ys),List.length_cons,Nat.add_right_cancel_iff]
  constructor
  ·rintro ⟨⟨h1,h2⟩,h3,h4⟩
   refine ⟨h3,fun i h h' => ?_⟩
   cases i with
   | zero => exact ⟨h1,h2⟩
   | succ i => exact h4 i (by simpa using h) (by simpa using h')
  ·rintro ⟨h3,h4⟩
   exact ⟨h4 0 (by simp) (by simp),h3,fun i h h' => h4 (i + 1) (by simpa using h) (by simpa using h')⟩
theorem zmx {l:List Vr} {xs:List Int} {k:Nat} {n:Int} (h:within l xs = true) (hk:k < l.length) (hn:l[k].low ≤ n ∧ n ≤ l[k].high):within l (xs.set k n) = true:=by
 rw [within_iff] at h ⊢
 refine ⟨by simpa using h.1,fun i hi hi' => ?_⟩
 rw [List.getElem_set]
 split
 ·rename_i e; subst e; exact hn
 ·exact h.2 i hi (by simpa using hi')
theorem zef {all:List Vr}:∀ {l:List Vr} {i:Nat},za3 all l i = 0 → ∀ v ∈ l,(-65536 ≤ v.low ∧ v.high ≤ 65536) ∧ v.low ≤ v.init ∧ v.init ≤ v.high
 | [],_,_,v,hv => by simp at hv
 | x :: r,i,h,v,hv => by
  simp only [za3] at h
  split at h
  ·rename_i e he
   subst h
   unfold checkVr at he
   split at he; · cases he
   split at he; · cases he
   split at he; · cases he
   split at he; · cases he
   split at he <;> cases he
  ·rename_i he
   rcases List.mem_cons.1 hv with rfl | hv
   ·unfold checkVr at he
    split at he; · cases he
    split at he; · cases he
    split at he; · cases he
    rename_i h3
    split at he; · cases he
    split at he; · cases he
    rename_i h4 h5
    simp only [checkVr.large,Bool.or_eq_true,decide_eq_true_eq,not_or] at h3
    omega
   ·exact zef h v hv
theorem ziT {l:List Vr} (h:zbr l = 0):∀ v ∈ l,(-65536 ≤ v.low ∧ v.high ≤ 65536) ∧ v.low ≤ v.init ∧ v.init ≤ v.high:=by
 unfold zbr at h
 split at h
 ·cases h
 ·exact zef h
def okS (m:Ext) (s:Sta):Prop:=(0 ≤ s.loc ∧ s.loc < m.locs) ∧ within m.vars s.vals = true
theorem zm3 {m:Ext} {s:Sta} (hr:extRight m) (h:okS m s):i64B s.loc ∧ (∀ v ∈ s.vals,i64B v) ∧ s.vals.length ≤ 16 ∧ s.vals.length = m.vars.length ∧ ∀ v ∈ s.vals,-65536 ≤ v ∧ v ≤ 65536:=by
 obtain ⟨h1,h2⟩:=h
 rw [within_iff] at h2
 have hl:=hr.locs
 have hv:=zkT hr.vars
 have hb:∀ v ∈ s.vals,-65536 ≤ v ∧ v ≤ 65536:=by
  intro v hm
  obtain ⟨i,hi,rfl⟩:=List.getElem_of_mem hm
  have a:=h2.2 i (by omega) hi
  have b:=ziT hr.vars _ (List.getElem_mem (by omega:i < m.vars.length))
  omega
 exact ⟨⟨by omega,by omega⟩,fun v hm => by have:=hb v hm; exact ⟨by omega,by omega⟩,by omega,h2.1,hb⟩
theorem zqJ {m:Ext} (hr:extRight m):okS m (zcR m):=by
 refine ⟨hr.init,within_iff.2 ⟨by simp [zcR],fun i h h' => ?_⟩⟩
 simp only [zcR,List.getElem_map]
 exact (ziT hr.vars _ (List.getElem_mem h)).2
theorem zn6 {m:Ext} {vals:List Int}:∀ {l:List Upd} {acc out:List Int},updR m vals l acc = some out → within m.vars acc = true → within m.vars out = true
 | [],acc,out,h,hw => by simp only [updR,Option.some.injEq] at h; subst h; exact hw
 | u :: r,acc,out,h,hw => by
  simp only [updR] at h
  cases hu:m.vars[u.v.toNat]? with
  | none => rw [hu] at h; cases h
  | some v =>
   rw [hu] at h
   simp only at h
   split at h
   ·cases h
   ·rename_i hc
    have hk:u.v.toNat < m.vars.length:=(List.getElem?_eq_some_iff.1 hu).1
    have hkv:m.vars[u.v.toNat] = v:=(List.getElem?_eq_some_iff.1 hu).2
    refine zn6 h (zmx hw hk ?_)
    rw [hkv]
    omega
theorem zst {m:Ext} {s:Sta} {ev:Int} (hr:extRight m) (h:okS m s) (hp:(zf6 m s ev).2.1 = true):okS m (zf6 m s ev).1:=by
 unfold zf6 at hp ⊢
 cases hc:(chs s ev m.moves 0 none false).1 with
 | none => rw [hc] at hp; cases hp
 | some k =>
  rw [hc] at hp
  simp only at hp ⊢
  split at hp
  ·cases hp
  ·rename_i he
   rw [if_neg he]
   cases hk:m.moves[k]? with
   | none => rw [hk] at hp; cases hp
   | some x =>
    rw [hk] at hp
    simp only at hp ⊢
    cases hu:updR m s.vals x.us s.vals with
    | none => rw [hu] at hp; cases hp
    | some acc =>
     exact ⟨(hr.mv x (List.mem_of_getElem? hk)).to,zn6 hu h.2⟩
structure Srch where
 sts:List Sta
 frm:List (Int × Int)
 flt:Int × Int
 kind:Int
abbrev zoH (l:List Sta):Ob:=.arr 68 2 l.length (l.map staI) true
end Go.AI


namespace Go.AI
open Go.Proofs
set_option maxRecDepth 20000
structure Good (m:Ext) (S:Srch):Prop where
 len:S.sts.length ≤ 4096
 ok:∀ s ∈ S.sts,okS m s
 fl:S.frm.length = S.sts.length
end Go.AI


namespace Go.AI
open Go.Proofs
set_option maxRecDepth 20000
abbrev zhN (l:List Sta):D:=.i (.sl 2 l.length (l.map staI))
end Go.AI


namespace Go.AI
open Go.Proofs
def over (c:Array Value):Nat → List Value → Array Value
 | _,[] => c
 | o,v :: r => over (c.setIfInBounds o v) (o + 1) r
theorem zfu {K:Kn}:∀ {vs:List Value} {l:List Int},RepL K vs (l.map fun x => [vi x]).flatten → vs = l.map (Value.int .i64)
 | _,[],.nil => rfl
 | _,x :: r,h => by
  simp only [List.map_cons,List.flatten_cons,List.cons_append,List.nil_append] at h
  cases h with
  | cons a b =>
   cases a with
   | v e => rw [zfu b]; rfl
theorem zfI {K:Kn}:∀ (l:List Int),RepL K (l.map (Value.int .i64)) (l.map fun x => [vi x]).flatten
 | [] => .nil
 | x :: r => by
  simp only [List.map_cons,List.flatten_cons,List.cons_append,List.nil_append]
  exact .cons (.v rfl) (zfI r)
end Go.AI


namespace Go.AI
open Go.Proofs
set_option maxRecDepth 20000
def back (frm:List (Int × Int)):Nat → Int × Int → List Int
 | 0,_ => []
 | f + 1,p => if p.1 < 0 then [] else p.2 :: back frm f (frm.getD p.1.toNat (-1,-1))
structure Linked (S:Srch):Prop where
 len:S.frm.length = S.sts.length
 frm:∀ k (h:k < S.frm.length),S.frm[k].1 < k
 flt:S.flt.1 < S.sts.length
 most:S.sts.length ≤ 4096
end Go.AI


namespace Go.AI
open Go.Proofs
set_option maxRecDepth 20000
end Go.AI


namespace Go.AI
open Go.Proofs
set_option maxRecDepth 20000
end Go.AI


namespace Go.AI
set_option maxRecDepth 20000
section
variable {h:Int} (h1:1 ≤ h) (h2:h ≤ 8191)
include h1 h2
variable {k:Int} (k1:0 ≤ k) (k2:k ≤ h)
omit h1 in
include k1 k2 in
include k1 k2 in
omit h1 in
include k1 k2 in
omit h1 in
include k1 k2 in
omit h1 in
include k1 k2 in
include k1 k2 in
include k1 k2 in
end
end Go.AI


namespace Go.AI
set_option maxRecDepth 20000
def cnt (n:Nat):List Sta:=(List.range n).map fun (i:Nat) => (⟨0,[(i:Int)]⟩:Sta)
section
variable {H:Nat} (h1:1 ≤ H) (h2:H ≤ 8191)
include h1 h2
end
end Go.AI


namespace Go.AI
open Go.Proofs
set_option maxRecDepth 20000
end Go.AI


namespace Go.AI
end Go.AI


namespace Go.AI
open Go.Proofs
set_option maxRecDepth 20000
end Go.AI


namespace Go.AI
open Go.Proofs
set_option maxRecDepth 20000
end Go.AI


namespace Go.AI
open Go.Proofs
set_option maxRecDepth 20000
end Go.AI


namespace Go.AI
open Go.Proofs
set_option maxRecDepth 20000
end Go.AI


namespace Go.AI
open Go.Proofs
set_option maxRecDepth 20000
end Go.AI


namespace Go.AI
open Go.Proofs
set_option maxRecDepth 20000
end Go.AI


namespace Go.AI
open Go.Proofs
set_option maxRecDepth 20000
end Go.AI


namespace Go.Proofs
open Go.Shelf Go.RowKit
variable {P:Program} {ρ:Ren}
theorem zfM {w:World} {b:Nat} {p q v:Value} {T:TypeId} (h:w.heap[b]? = some (.cells #[p,v] T (0,0))):(w.setCell ⟨b,0,none⟩ q).heap[b]? = some (.cells #[q,v] T (0,0)):=by
 show (Array.modify _ _ _)[b]? = _
 rw [Array.getElem?_modify,if_pos rfl,h]
 rfl
theorem zo6 {w:World} {b:Nat} {p q v:Value} {T:TypeId} (h:w.heap[b]? = some (.cells #[p,v] T (0,0))):(w.setCell ⟨b,1,none⟩ q).heap[b]? = some (.cells #[p,q] T (0,0)):=by
 show (Array.modify _ _ _)[b]? = _
 rw [Array.getElem?_modify,if_pos rfl,h]
 rfl
theorem zm0 {w w':World} {e:TypeId} {v:Value} {n:Nat} {xs:List Value} (h:w.ownsRow 0 e 1 v n xs) (hb:∀ k,v.ownBlock = some k → w'.heap[k]? = w.heap[k]?):w'.ownsRow 0 e 1 v n xs:=by
 refine ⟨h.1,?_⟩
 rcases h.2 with h1 | ⟨g,cap,cur,rfl,h2,h3,h4⟩
 ·exact .inl h1
 ·exact .inr ⟨g,cap,cur,rfl,h2,by rw [hb g rfl]; exact h3,h4⟩
section
variable (w:World)
def znY (w:World) (v v':Value):Prop:=v'.ownBlock = v.ownBlock ∨ ∀ k,v'.ownBlock = some k → w.heap.size ≤ k
theorem zgj (t u ty e:TypeId) (i:TypeInfo) (ht:P.underlying t = some (.slice e)) (hu:P.underlying u = some .string) (hi:P.info? e = some i) (hz:i.zero = some (.int .u8 0))
  (hsize:i.size = 1) (hby:i.bytes = 1) (v:Value) (n:Nat) (xs:List Value) (hown:w.ownsRow 0 e 1 v n xs) (s:ByteArray) (h63:n + s.size ≤ maxLen) (hbytes:n + s.size ≤ 140737488355328) :
  ∃ v' w',(Builtin.append_ #[t,u] ty #[v,.string s]).run P w = .ok v' w' ∧ w'.ownsRow 0 e 1 v' (n + s.size) (xs ++ Lib.strCells s) ∧ w.grownBy w' v.ownBlock ∧ znY w v v':=by
 obtain ⟨v',w',hr,h2,h3,-⟩:=Lib.run_append_own_string (P:=P) w 0 t u ty e i ht hu hi hz hsize hby v n xs hown s h63 hbytes (Nat.zero_le _)
 refine ⟨v',w',hr,h2,h3,?_⟩
 have hxl:xs.length = n:=by simpa using hown.1
 rcases hown.2 with ⟨rfl,rfl⟩ | ⟨g,cap,cur,rfl,hbg,hg,hnc,hcm,hcs,htake⟩
 ·obtain rfl:xs = []:=List.eq_nil_of_length_eq_zero hxl
  obtain ⟨v2,w2,hr2,h5,-⟩:=Lib.run_append_own_string (P:=P) w w.heap.size t u ty e i ht hu hi hz hsize hby (.slice none 0 0) 0 [] (World.ownsRow_nil w _ e 1) s h63 hbytes (Nat.le_refl _)
  have e1:v' = v2:=by have:=hr.symm.trans hr2; injection this
  subst e1
  exact .inr fun k hk => (h5.lt k hk).1
 ·by_cases hroom:n + s.size ≤ cap
  ·have hr2:=Lib.run_append_room_string (P:=P) w t u ty e i ht hu hi hsize g n cap cur hg s hroom (by omega)
   have e1:v' = .slice (some ⟨g,0,none⟩) (n + s.size) cap:=by have:=hr.symm.trans hr2; injection this
   subst e1
   exact .inl rfl
  ·have holds:∀ j u,xs[j]? = some u → w.cell? ((⟨g,0,none⟩:Addr).add j) = some u:=hown.cells (g:=g) rfl
   have hr2:=Lib.run_append_grow_string (P:=P) w t u ty e i (.int .u8 0) ht hu hi hz ⟨g,0,none⟩ n cap xs (by rw [hsize]; simpa using hxl) holds s (by omega) (by simp only [maxLen] at h63; omega) (by rw [hby]; exact growslice_fits (by omega) (by omega))
   have e1:v' = .slice (some ⟨w.heap.size,0,none⟩) (n + s.size) (grownCap w (n + s.size) cap e):=by have:=hr.symm.trans hr2; injection this
   subst e1
   exact .inr fun k hk => by simp [Value.ownBlock] at hk; omega
theorem zgk (t ty e:TypeId) (i:TypeInfo) (ht:P.underlying t = some (.slice e)) (hi:P.info? e = some i) (hz:i.zero = some (.int .u8 0))
  (hsize:i.size = 1) (hby:i.bytes = 1) (v:Value) (n:Nat) (xs:List Value) (hown:w.ownsRow 0 e 1 v n xs)
  (a:Addr) (m c:Nat) (news:List Value) (hl:news.length = m * 1) (hnews:∀ j u,news[j]? = some u → w.cell? (a.add j) = some u) (h1:∀ u ∈ news,u.oneCell' = true)
  (h63:n + m ≤ maxLen) (hbytes:(n + m) * 1 ≤ 140737488355328) :
  ∃ v' w',(Builtin.append_ #[t,t] ty #[v,.slice (some a) m c]).run P w = .ok v' w' ∧ w'.ownsRow 0 e 1 v' (n + m) (xs ++ news) ∧ w.grownBy w' v.ownBlock ∧ znY w v v':=by
 obtain ⟨v',w',hr,h2,h3,-⟩:=run_append_own (P:=P) w 0 t ty e i (.int .u8 0) 1 1 ht hi hz hsize hby rfl (by decide) v n xs hown a m c news hl hnews h1 h63 hbytes (Nat.zero_le _)
 refine ⟨v',w',hr,h2,h3,?_⟩
 have hxl:xs.length = n:=by simpa using hown.1
 rcases hown.2 with ⟨rfl,rfl⟩ | ⟨g,cap,cur,rfl,hbg,hg,hnc,hcm,hcs,htake⟩
 ·obtain rfl:xs = []:=List.eq_nil_of_length_eq_zero hxl
  obtain ⟨v2,w2,hr2,h5,-⟩:=run_append_own (P:=P) w w.heap.size t ty e i (.int .u8 0) 1 1 ht hi hz hsize hby rfl (by decide) (.slice none 0 0) 0 [] (World.ownsRow_nil w _ e 1) a m c news hl hnews h1 h63 hbytes (Nat.le_refl _)
  have e1:v' = v2:=by have:=hr.symm.trans hr2; injection this
  subst e1
  exact .inr fun k hk => (h5.lt k hk).1
 ·by_cases hroom:n + m ≤ cap
  ·have hr2:=run_append_room (P:=P) w t ty e i ht hi g n cap cur hg a m c news (by rw [hsize]; exact hl) hnews h1 hroom (by rw [hsize]; omega)
   have e1:v' = .slice (some ⟨g,0,none⟩) (n + m) cap:=by have:=hr.symm.trans hr2; injection this
   subst e1
   exact .inl rfl
  ·have holds:∀ j u,xs[j]? = some u → w.cell? ((⟨g,0,none⟩:Addr).add j) = some u:=hown.cells (g:=g) rfl
   have hr2:=run_append_grow (P:=P) w t ty e i (.int .u8 0) ht hi hz ⟨g,0,none⟩ n cap xs (by rw [hsize]; simpa using hxl) holds a m c news (by rw [hsize]; exact hl) hnews (by omega) (by simp only [maxLen] at h63; omega) (by rw [hby]; exact growslice_fits (by omega) hbytes)
   have e1:v' = .slice (some ⟨w.heap.size,0,none⟩) (n + m) (grownCap w (n + m) cap e):=by have:=hr.symm.trans hr2; injection this
   subst e1
   exact .inr fun k hk => by simp [Value.ownBlock] at hk; omega
theorem zf4 {ops:Array Oper} {rest:List Oper} {o:Oper} {a:Act} {Q:Exit → Act → World → Prop} (hgd:o.guard = none) (sl x:Operand) (t u:TypeId)
  (ho:o.op = .call { callee:=.builtin .append,args:=#[sl,x],argTypes:=#[t,u] })
  (e:TypeId) (i:TypeInfo) (ht:P.underlying t = some (.slice e)) (hu:P.underlying u = some .string) (hi:P.info? e = some i) (hz:i.zero = some (.int .u8 0)) (hsize:i.size = 1) (hby:i.bytes = 1)
  (v:Value) (n:Nat) (xs:List Value) (hs:a.eval sl = v) (hown:w.ownsRow 0 e 1 v n xs) (s:ByteArray) (hx:a.eval x = .string s) (h63:n + s.size ≤ maxLen) (hbytes:n + s.size ≤ 140737488355328)
  (h:∀ v' w',w'.ownsRow 0 e 1 v' (n + s.size) (xs ++ Lib.strCells s) → w.grownBy w' v.ownBlock → znY w v v' → wpList P ops Q rest (a.put o.dst v') w'):wpList P ops Q (o :: rest) a w:=by
 refine wpList_plain hgd fun K hK => ?_
 obtain ⟨v',w',hr,h2,h3,h4⟩:=zgj (P:=P) w t u o.type e i ht hu hi hz hsize hby v n xs hown s h63 hbytes
 unfold Oper.wp execOp
 simp only [ho,resolve,invoke,builtin,Sem.run_bind,Sem.run_pure,Result.andThen_ok,List.map_toArray,List.map_cons,List.map_nil,hs,hx,hr]
 exact hK _ _ (h v' w' h2 h3 h4)
theorem zf5 {ops:Array Oper} {rest:List Oper} {o:Oper} {a:Act} {Q:Exit → Act → World → Prop} (hgd:o.guard = none) (sl x:Operand) (t:TypeId)
  (ho:o.op = .call { callee:=.builtin .append,args:=#[sl,x],argTypes:=#[t,t] })
  (e:TypeId) (i:TypeInfo) (ht:P.underlying t = some (.slice e)) (hi:P.info? e = some i) (hz:i.zero = some (.int .u8 0)) (hsize:i.size = 1) (hby:i.bytes = 1)
  (v:Value) (n:Nat) (xs:List Value) (hs:a.eval sl = v) (hown:w.ownsRow 0 e 1 v n xs)
  (ad:Addr) (m c:Nat) (news:List Value) (hx:a.eval x = .slice (some ad) m c) (hl:news.length = m * 1) (hnews:∀ j u,news[j]? = some u → w.cell? (ad.add j) = some u) (h1:∀ u ∈ news,u.oneCell' = true)
  (h63:n + m ≤ maxLen) (hbytes:(n + m) * 1 ≤ 140737488355328)
  (h:∀ v' w',w'.ownsRow 0 e 1 v' (n + m) (xs ++ news) → w.grownBy w' v.ownBlock → znY w v v' → wpList P ops Q rest (a.put o.dst v') w'):wpList P ops Q (o :: rest) a w:=by
 refine wpList_plain hgd fun K hK => ?_
 obtain ⟨v',w',hr,h2,h3,h4⟩:=zgk (P:=P) w t o.type e i ht hi hz hsize hby v n xs hown ad m c news hl hnews h1 h63 hbytes
 unfold Oper.wp execOp
 simp only [ho,resolve,invoke,builtin,Sem.run_bind,Sem.run_pure,Result.andThen_ok,List.map_toArray,List.map_cons,List.map_nil,hs,hx,hr]
 exact hK _ _ (h v' w' h2 h3 h4)
end
def zpU (T e:TypeId) (b:Nat) (p v0:Value) (bs news:List Value) (w w':World):Prop:=
 ∃ w1 w2 w3 v',((w1 = w ∧ p = .pointer (some ⟨b,0,none⟩)) ∨ (w1 = w.setCell ⟨b,0,none⟩ (.pointer (some ⟨b,0,none⟩)) ∧ p = .pointer none)) ∧ (w2 = w1 ∨ ∃ o,w2 = w1.alloc o) ∧
  w3.ownsRow 0 e 1 v' (bs.length + news.length) (bs ++ news) ∧ w2.grownBy w3 v0.ownBlock ∧ znY w2 v0 v' ∧ w' = w3.setCell ⟨b,1,none⟩ v'
set_option maxRecDepth 100000 in
theorem znm (L:Lays.n169 P ρ) (X:Builder.Extra P ρ) (b:Nat) (p v:Value) (l:List UInt8) (w:World) (hbk:w.heap[b]? = some (.cells #[p,v] (ρ.t 72) (0,0))) (hown:w.ownsRow 0 (ρ.t 5) 1 v l.length (Lib.byteCells l)) (h0:l ≠ []) :
  Calls P (ρ.f 169) #[.pointer (some ⟨b,0,none⟩)] w fun e w' => e = .returned (.string ⟨l.toArray⟩) ∧ ∃ g,v.ownBlock = some g ∧ w' = w.drew.freeze ⟨g,0,none⟩ l.length:=by
 have hl0:l.length ≠ 0:=by simpa using h0
 obtain ⟨g,cap,cur,rfl,hbg,hg,hnc,hcm,hcs,htake⟩:∃ g cap cur,v = .slice (some ⟨g,0,none⟩) l.length cap ∧ 0 ≤ g ∧ w.heap[g]? = some (.cells cur (ρ.t 5) (0,0)) ∧ l.length ≤ cap ∧ cap ≤ maxLen ∧ cur.size = cap * 1 ∧ cur.toList.take (l.length * 1) = Lib.byteCells l:=by
  rcases hown.2 with ⟨_,hz⟩ | ⟨g,cap,cur,hv,r⟩
  ·exact absurd hz hl0
  ·exact ⟨g,cap,cur,hv,r⟩
 have c1:w.drew.cell? ⟨b,1,none⟩ = some (.slice (some ⟨g,0,none⟩) l.length cap):=by
  have:w.drew.heap[b]? = some (.cells #[p,.slice (some ⟨g,0,none⟩) l.length cap] (ρ.t 72) (0,0)):=hbk
  rw [Lib.cell_of_heap this]; rfl
 have hSD:(Builtin.unsafeSliceData_ #[(ρ.t 37)] (ρ.t 127) #[.slice (some ⟨g,0,none⟩) l.length cap]).run P w.drew = .ok (.pointer (some ⟨g,0,none⟩)) w.drew:=
  Lib.run_unsafeSliceData_row _ _ _ _ _ _ (by omega)
 have hUS:(Builtin.unsafeString_ #[(ρ.t 127),(ρ.t 3)] (ρ.t 9) #[.pointer (some ⟨g,0,none⟩),.int .i64 l.length]).run P w.drew = .ok (.string ⟨l.toArray⟩) (w.drew.freeze ⟨g,0,none⟩ l.length):=by
  refine Lib.run_unsafeString_row w.drew (ρ.t 127) (ρ.t 3) (ρ.t 9) (ρ.t 5) L.t127 X.cellsByte g cur.size (by have hg':w.drew.heap[g]? = some (.cells cur (ρ.t 5) (0,0)):=hg; simp [World.shape?,hg']) l h0 (by omega) (by unfold maxLen at hcm; omega) ?_
  intro j x hx
  have:=hown.cells (g:=g) rfl j (.int .u8 x.toNat) (by simp [Lib.byteCells,hx])
  exact this
 have mixed:=L.mixed
 have t72:=L.t72; have a72:=L.a72; have z72:=L.z72; have v72:=L.v72; have u72:=run_underlying L.t72
 have t70:=L.t70; have a70:=L.a70; have z70:=L.z70; have v70:=L.v70; have u70:=run_underlying L.t70
 have t37:=L.t37; have a37:=L.a37; have z37:=L.z37; have v37:=L.v37; have u37:=run_underlying L.t37
 have t127:=L.t127; have a127:=L.a127; have z127:=L.z127; have v127:=L.v127; have u127:=run_underlying L.t127
 have t3:=L.t3; have a3:=L.a3; have z3:=L.z3; have v3:=L.v3; have u3:=run_underlying L.t3
 have t9:=L.t9; have a9:=L.a9; have z9:=L.z9; have v9:=L.v9; have u9:=run_underlying L.t9
 have t5:=X.t5; have a5:=X.a5; have z5:=X.z5; have v5:=X.v5; have u5:=run_underlying X.t5
 go_enter L.f169,Body.n169_ntmps ρ
 go_wp2
 go_region_o
 all_goals (go_wp2; go_ret; exact ⟨rfl,g,rfl,rfl⟩)
end Go.Proofs
