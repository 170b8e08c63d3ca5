/- The layer of abstract runs, part 25. -/
import Derived.Test.YtlcekmemdnjjbaaGreatDoorAshX
import Derived.KernelRfl
import Derived.Lib.SliceRun
set_option linter.unusedSimpArgs false
set_option linter.unusedVariables false
set_option linter.all false

set_option maxHeartbeats 4000000
namespace Go.AI
open Go.Proofs
set_option maxRecDepth 20000
def zhW:List UInt8 → List Int → List UInt8
 | T,[] => T
 | T,x :: r => zhW (T ++ zeA (x + 1)) r
def zd0 (l:List Int):ByteArray:=⟨(zhW [] l).toArray⟩
abbrev dp3 (p:Bool):D:=bif p then .own 0 3 0 0 else .i (.v (.pointer none))
theorem ztg (p:Bool):dp3 p = .i (.v (.pointer none)) ∨ dp3 p = .own 0 3 0 0:=by cases p; exact .inl rfl; exact .inr rfl
theorem zvf (O:List Heap) (l:List Int) (h0:l ≠ []) (hl:l.length ≤ 4096) (hb:∀ x ∈ l,0 ≤ x ∧ x < 4096):zan Tryz.prog 153 [ints l] O (.i (.v (.string (zd0 l)))) [] O:=by
 have hno:zd0 l = ⟨(zhW [] (l.drop 0)).toArray⟩:=rfl
 have hpos:0 < l.length:=List.length_pos_iff.2 h0
 generalize zd0 l = R at *
 refine zat [200003,200015,200017] Tk Tryz.func153 rfl Tryz.call153 Tryz.ntmps153 (Nat.le_of_ble_eq_true rfl) fun E => ?_
 refine zae Tk Tryz.func153 ?_
 refine g_tb Tk Tryz.func153 rfl rfl rfl rfl rfl rfl rfl rfl ?_
 refine zac ?_
 refine zao (zlx 3 60 5 1 rfl rfl rfl) ?_
 refine zah (fun x:Nat × List UInt8 × Bool => [(3,.own 0 3 0 0),(6,ints l),(7,ii l.length),(8,ii x.1)]) (fun x => [(3,.tb 217 [dp3 x.2.2,.osl 0 60]),(60,oby x.2.1)]) (fun _ => O) 18
  (fun x => x.1 ≤ l.length ∧ x.2.1.length ≤ 3 * x.1 ∧ (x.1 = 0 ∨ x.2.1 ≠ []) ∧ R = ⟨(zhW x.2.1 (l.drop x.1)).toArray⟩) (fun x => l.length - x.1) (0,[],false)
  ⟨Nat.zero_le _,by simp,.inl rfl,hno⟩ ⟨rfl,rfl,rfl,rfl,trivial⟩ rfl ⟨rfl,rfl,trivial⟩ rfl rfl ?_
 clear hno
 rintro ⟨i,T,p⟩ ⟨hi,hTl,hT0,hno⟩ ih
 simp only at hi hTl hT0 hno
 refine zae Tk Tryz.func153 ?_
 refine zai Tk Tryz.func153 rfl (fun g1 => ?_) (fun g1 => ?_)
 ·have h2:i < l.length:=by simpa using g1
  have gl:(l.map fun x => [vi x])[(i:Int).toNat]? = some [vi l[i]]:=zaj (f:=fun x => [vi x]) h2
  have hx:=hb _ (List.getElem_mem h2)
  rw [List.drop_eq_getElem_cons h2] at hno
  simp only [zhW] at hno
  generalize l[i] = x at *
  have hi1:ii (IntKind.i64.wrap ((i:Int) + 1)) = ii ((i + 1:Nat):Int):=congrArg ii (zaB (n:=4096) (by omega) (by decide))
  have hw1:IntKind.i64.wrap (x + 1) = x + 1:=w64 (by omega) (by omega)
  have hw:IntKind.i32.wrap (IntKind.i64.wrap (x + 1)) = x + 1:=by
   rw [hw1]
   exact IntWalk.i32_in _ ⟨by omega,by omega⟩
  refine zag Tk Tryz.func153 (by exact ⟨by omega,by show (i:Int) < (l.length:Int); omega⟩) ?_
  refine zap Tk Tryz.func153 (gl) ?_
  have hrl:=zlI (x + 1)
  have hrn:=zrt (x + 1)
  rw [← hw] at hno hrl hrn
  refine zdB Tk Tryz.func153 rfl rfl rfl rfl (zuu rfl (IntKind.i32.wrap (IntKind.i64.wrap (x + 1))) (by omega) (by omega) T (ztg p) (by omega) rfl (show 15 < 18 by decide) rfl rfl rfl (by decide)) ?_
  refine zac ?_
  refine ih (i + 1,T ++ zeA (IntKind.i32.wrap (IntKind.i64.wrap (x + 1))),true) _ _ ⟨h2,by simp only [List.length_append]; omega,.inr (by simp [hrn]),hno⟩ (by simp only; omega) ⟨rfl,rfl,rfl,hi1,trivial⟩ rfl ⟨rfl,rfl,trivial⟩ rfl rfl
 ·have h2:l.length ≤ i:=by simpa using g1
  rw [List.drop_eq_nil_of_le h2] at hno
  simp only [zhW] at hno
  subst hno
  have hT0:T ≠ []:=hT0.resolve_left (by omega)
  refine zdB Tk Tryz.func153 rfl rfl rfl rfl (zqp rfl hT0 rfl (show 17 < 18 by decide) rfl rfl rfl) ?_
  refine zal Tk (r:=.i (.v (.string ⟨T.toArray⟩))) rfl rfl rfl trivial rfl rfl ?_
  rfl
end Go.AI


namespace Go.AI
open Go.Proofs
set_option maxRecDepth 20000
section
variable {P:Program} {T:TT} {f:FuncId} {fn:Func} {code:Code}
end
section
variable {c:Cx} {s:St} {k:List Item} {ops:Array Oper} {rest:List Nat} {o:Oper}
end
end Go.AI


namespace Go.AI
open Go.Proofs
set_option maxRecDepth 20000
abbrev zbD (l:List Edg):Ob:=.arr 117 3 l.length (l.map edgI) true
theorem zc0 (l:List Edg) (e:Edg):Ob.arr 117 3 (l.length + 1) (l.map edgI ++ [edgI e]) true = zbD (l ++ [e]):=by simp
abbrev ze4 (l:List (List Int)):Ob:=.arr 31 1 l.length (l.map fun r => [zbu r]) true
theorem zeD (l:List (List Int)) (r:List Int):Ob.arr 31 1 (l.length + 1) ((l.map fun r => [zbu r]) ++ [[zbu r]]) true = ze4 (l ++ [r]):=by simp
def subs:Nat → List (List Int)
 | 0 => [[]]
 | n + 1 => subs n ++ (subs n).map (· ++ [(n:Int)])
theorem zfy:∀ n,(subs n).length = 2 ^ n
 | 0 => rfl
 | n + 1 => by simp only [subs,List.length_append,List.length_map,zfy n]; omega
theorem zbF (l:List Int):∀ n,zaQ l n ∈ subs n
 | 0 => by simp [subs,zaQ]
 | n + 1 => by
  rw [zfw,subs,List.mem_append]
  by_cases h:(n:Int) ∈ l
  ·rw [if_pos h]
   exact .inr (List.mem_map.2 ⟨_,zbF l n,rfl⟩)
  ·rw [if_neg h,List.append_nil]
   exact .inl (zbF l n)
theorem zbl {α:Type} [DecidableEq α]:∀ {l m:List α},l.Nodup → (∀ x ∈ l,x ∈ m) → l.length ≤ m.length
 | [],_,_,_ => Nat.zero_le _
 | a :: l,m,h,hs => by
  have ha:=hs a (by simp)
  unfold List.Nodup at h
  rw [List.pairwise_cons] at h
  have h1:=zbl (l:=l) (m:=m.erase a) h.2 fun x hx => (List.mem_erase_of_ne (fun e => h.1 x hx e.symm)).2 (hs x (by simp [hx]))
  rw [List.length_erase_of_mem ha] at h1
  have:=List.length_pos_of_mem ha
  simp only [List.length_cons]
  omega
structure estsOk (n:Nat) (sts:List (List Int)):Prop where
 nd:sts.Nodup
 el:∀ s ∈ sts,s ∈ subs n ∧ s ≠ [] ∧ s.length ≤ n ∧ ∀ x ∈ s,0 ≤ x ∧ x < (n:Int)
theorem zqD (a:ByteArray):(a == a) = true:=(znX a a).2 rfl
abbrev zdo (l:List (List Int)):I:=.sl 1 l.length (l.map fun r => [zbu r])
abbrev zbK (a:Aut) (on:List Int):List Int:=a.alpha.filter fun x => decide (x ∈ on)
end Go.AI


namespace Go.AI
open Go.Proofs
set_option maxRecDepth 20000
structure smallA (a:Aut):Prop where
 ed:a.edges.length ≤ 1000000
 al:a.alpha.length ≤ 1000000
 mkd:a.marked.length ≤ 1000000
theorem zdd {a:Aut} (h:chkA a = 0):(∀ e ∈ a.edges,0 ≤ e.1 ∧ e.1 < a.states) ∧ (∀ e ∈ a.edges,0 ≤ e.2.2 ∧ e.2.2 < a.states) ∧ ∀ e ∈ a.edges,e.2.1 ∈ a.alpha:=by
 obtain ⟨_,_,_,c4⟩:=zaK h
 obtain ⟨_,eb,_⟩:=zbh c4
 exact ⟨fun e he => (eb e he).1,fun e he => (eb e he).2.1,fun e he => (eb e he).2.2⟩
end Go.AI


namespace Go.AI
open Go.Proofs
open Go.Shelf Go.RowKit Go.Lib Go.Sort
end Go.AI


namespace Go.AI
open Go.Proofs
set_option maxRecDepth 20000
def lowP (on un:List Int) (only:Bool) (ev:Int):Bool:=!decide (ev ∈ on) && (!only || decide (ev ∈ un))
theorem zhp (x y:Int):∀ (es:List (Value × Bool)),zdj (mset es (.int .i64 x) true) (.int .i64 y) = (decide (y = x) || zdj es (.int .i64 y))
 | [] => by
  unfold mset zdj zbJ zbJ
  have e:keyB (.int .i64 y) (.int .i64 x) = decide (y = x):=by show (y == x) = _; by_cases h:y = x <;> simp [h]
  rw [e]
  cases decide (y = x) <;> rfl
 | (c,b) :: r => by
  have ih:=zhp x y r
  have e:keyB (.int .i64 y) (.int .i64 x) = decide (y = x):=by show (y == x) = _; by_cases h:y = x <;> simp [h]
  unfold mset
  cases h1:keyB (.int .i64 x) c with
  | true =>
   rw [cond_true]
   unfold zdj at ih ⊢
   simp only [zbJ,e]
   cases h2:decide (y = x) with
   | true => rfl
   | false =>
    have h3:keyB (.int .i64 y) c = false:=by
     cases c with
     | int k z =>
      have e1:x = z:=by simpa [keyB] using h1
      subst e1
      rw [show keyB (.int .i64 y) (.int k x) = keyB (.int .i64 y) (.int .i64 x) from rfl,e,h2]
     | _ => simp [keyB] at h1
    rw [h3]
    rfl
  | false =>
   rw [cond_false]
   unfold zdj at ih ⊢
   simp only [zbJ]
   cases h3:keyB (.int .i64 y) c with
   | true => cases h4:decide (y = x) with
    | true =>
     have e1:y = x:=of_decide_eq_true h4
     rw [e1,h1] at h3
     cases h3
    | false => rfl
   | false => exact ih
def zj6 (km:List (Value × Bool)) (l:List Int):Prop:=∀ x,zdj km (.int .i64 x) = decide (x ∈ l)
theorem zpx:zj6 [] []:=fun x => by simp [zdj,zbJ]
theorem zjg {km:List (Value × Bool)} {l:List Int} (h:zj6 km l) (x:Int):zj6 (mset km (.int .i64 x) true) (l ++ [x]):=fun y => by
 rw [zhp,h y]
 by_cases h1:y = x
 ·simp [h1]
 ·simp [h1]
end Go.AI


namespace Go.AI
open Go.Proofs
set_option maxRecDepth 20000
section
variable {c:Cx} {s:St} {k:List Item} {ops:Array Oper} {rest:List Nat} {o:Oper} {E0:Env} {H0 H1 H:Heap} {O:List Heap}
theorem zjU (hT:TOk c.P c.T) {i j td t ty nm n i0:Nat} {x lo:Operand} {kd:IntKind} {o2:Oper} {ti1 ti2:TI} {xs:List (List I)} {z:Value} {cl:Call} (hi0:i0 < n)
  (ho:ops[i]? = some o) (hg:o.guard = none) (hd:o.dst = some td) (hop:o.op = .slice t x (some lo) none none) (h1:look c.T t = some ti1) (hk1:ti1.k = .slice ty) (h2:look c.T ty = some ti2) (hz1:ti2.size = 1) (hzz:ti2.zero = [z])
  (hzv:∀ w,(zeroValue ty).run c.P w = .ok z w) (hzc:z.cells = #[z]) (hz:z.oneCell' = true)
  (ho2:ops[j]? = some o2) (hg2:o2.guard = none) (hd2:o2.dst = none) (hop2:o2.op = .call cl) (hc1:cl.callee = .builtin .clear) (hc2:cl.args = #[.tmp td]) (hc3:cl.argTypes = #[t])
  (hx:evD s x = .osl 1 nm) (hlo:evD s lo = .i (.v (.int kd i0))) (hS:s.S = H0 :: H1 :: O) (hl:look H1 nm = some (.arr ty 1 n xs true)) (hn:Nat.ble (td + 1) s.n = true)
  (h:RG c ops rest { σ:=(td,.dead) :: s.σ,S:=H0 :: ((nm,.arr ty 1 n (xs.take i0 ++ List.replicate (n - i0) [.v z]) true) :: H1) :: O,n:=s.n } k):RG c ops (i :: j :: rest) s k:=by
 intro K ρ a w hi
 simp only [wpOps,ho,za7 hi (show zav ops s o = some true by unfold zav; rw [hg]),if_true]
 refine .inl ?_
 have hok1:=hT _ _ h1
 have hok2:=hT _ _ h2
 have hu:c.P.underlying t = some (.slice ty):=by have:=hok1.kind; rw [hk1] at this; exact this
 have hh:=hi.h
 have hob:zaa s.S 1 nm = some (.arr ty 1 n xs true):=by rw [hS]; simpa [zaa] using hl
 have hsh:shape s.S 1 nm = some (.arr 1 n):=by simp [shape,hob,Ob.sh]
 have hrx:=hi.ev x
 rw [hx] at hrx
 have hxv:=zcg hrx hsh
 have hrl:=hi.ev lo
 rw [hlo] at hrl
 have hlv:=zaM hrl
 obtain ⟨h3,h4,h5,h6,h7⟩:=zcX hh hob
 rcases h7 with ⟨h7,_⟩ | ⟨h7,cur,h8,h9,h10,h11,h12,h13⟩
 ·exfalso; omega
 have hib:(0:Int) ≤ (i0:Int) ∧ (i0:Int) ≤ (n:Int):=by omega
 have hrun:=zfW (P:=c.P) (w:=w) t ty ti2 hu hok2 (ρ 1 nm).base n (ρ 1 nm).cap (some (.int kd i0)) none none i0 n (ρ 1 nm).cap (by simp [Instr.sliceBounds,zb3 hib])
 have hexec:(execOp a.eval o).run c.P w = .ok (.value (.slice (if (ρ 1 nm).cap = i0 then (ρ 1 nm).base else (ρ 1 nm).base.map (·.add (i0 * ti2.size))) (n - i0) ((ρ 1 nm).cap - i0))) w:=by
  simp only [execOp,hop,hxv,Option.map_some,Option.map_none,hlv,Sem.run_bind,hrun,Result.andThen_ok,Sem.run_pure]
 have hadr:(if (ρ 1 nm).cap = i0 then (ρ 1 nm).base else (ρ 1 nm).base.map (·.add (i0 * ti2.size))) = some ⟨(ρ 1 nm).block,i0,none⟩:=by
  rw [if_neg (by omega),h7,hz1]
  simp [Addr.add]
  exact fun e => e.symm
 rw [hadr] at hexec
 simp only [Oper.wp,hexec,Oper.upon]
 generalize hv:Value.slice (some ⟨(ρ 1 nm).block,i0,none⟩) (n - i0) ((ρ 1 nm).cap - i0) = vs
 have hsz:n ≤ cur.size:=by rw [h9,Nat.mul_one]; exact h5
 have hil:td < a.tmps.size:=by rw [hi.size]; exact Nat.le_of_ble_eq_true hn
 have hrun2:=Lib.run_clear_slice (P:=c.P) w t ty o2.type z hu hzv hzc hz (ρ 1 nm).block i0 (n - i0) ((ρ 1 nm).cap - i0) (by omega)
  (fun j hj => by rw [cell_of_heap h8,Array.getElem?_eq_getElem (by omega)]; rfl) (fun j hj => by simp [World.frozen?,h8])
 have hev:(a.put o.dst vs).eval (.tmp td) = vs:=by
  rw [hd]
  show (a.put (some td) vs).tmps.getD td undef = vs
  rw [zbp hil,if_pos rfl]
 have hi2:Inv c.E K ρ { σ:=(td,.dead) :: s.σ,S:=s.S,n:=s.n } (a.put o.dst vs) w:=by
  rw [hd]
  exact zcf hi (Nat.le_of_ble_eq_true hn) hi.h (Stays.refl _ _ _) (.dead _)
 have hexec2:(execOp (a.put o.dst vs).eval o2).run c.P w = .ok (.value (.tuple #[])) (w.setCells (ρ 1 nm).block i0 (List.replicate (n - i0) z)):=by
  unfold execOp
  simp only [hop2,hc1,hc2,hc3,resolve,invoke,builtin,Sem.run_bind,Sem.run_pure,Result.andThen_ok,List.map_toArray,List.map_cons,List.map_nil,hev]
  rw [← hv,hrun2]
  rfl
 simp only [wpOps,ho2,za7 hi2 (show zav ops _ o2 = some true by unfold zav; rw [hg2]),if_true]
 refine .inl ?_
 simp only [Oper.wp,hexec2,Oper.upon]
 obtain ⟨a1,a2,a3,a4,a5,a6⟩:=zc7 (List.replicate (n - i0) z) i0 w cur ty (0,0) h8
 generalize w.setCells (ρ 1 nm).block i0 (List.replicate (n - i0) z) = w2 at *
 have hxl:xs.length = n:=h4
 have hput:HInv c.E K ρ (setAt s.S 1 nm (.arr ty 1 n (xs.take i0 ++ List.replicate (n - i0) [.v z]) true)) w2:=by
  refine hh.put hob rfl (by show _ ≠ none; rw [h7]; simp) (by show _ ≠ none; rw [h7]; simp) a3 a2 ⟨a4,a5,a6⟩ (fun o' x' hx' => by rw [h11 rfl] at hx'; cases hx') ?_
  refine ⟨fun d hdm => ?_,by rw [List.length_append,List.length_take,List.length_replicate]; omega,h5,h6,.inr ⟨h7,_,a1,by rw [zga,h9],?_,fun _ => h11 rfl,fun o ho => h11 rfl o,fun e => by cases e⟩⟩
  ·rcases List.mem_append.1 hdm with hdm | hdm
   ·exact h3 d (List.mem_of_mem_take hdm)
   ·rw [List.eq_of_mem_replicate hdm]; rfl
  ·have e1:(over cur i0 (List.replicate (n - i0) z)).toList.take (n * 1) = cur.toList.take i0 ++ List.replicate (n - i0) z:=by
    apply List.ext_getElem?
    intro j
    rw [List.getElem?_take,Nat.mul_one]
    by_cases hj:j < n
    ·rw [if_pos hj,Array.getElem?_toList,zh4 _ _ _ _ (by rw [List.length_replicate]; omega),List.length_replicate]
     by_cases hji:i0 ≤ j
     ·rw [if_pos (by omega),List.getElem?_append_right (by rw [List.length_take,Array.length_toList]; omega),List.length_take,Array.length_toList,Nat.min_eq_left (by omega)]
     ·rw [if_neg (by omega),List.getElem?_append_left (by rw [List.length_take,Array.length_toList]; omega),List.getElem?_take,if_pos (by omega),Array.getElem?_toList]
    ·rw [if_neg hj,List.getElem?_eq_none (by rw [List.length_append,List.length_take,List.length_replicate,Array.length_toList]; omega)]
   rw [e1,List.flatten_append]
   refine RepL.append ?_ ?_
   ·have h10':RepL K (cur.toList.take (n * 1)) xs.flatten:=h10
    have e2:xs.flatten.take (i0 * 1) = (xs.take i0).flatten:=zgE i0 h3 (by omega)
    rw [← e2]
    have e3:cur.toList.take i0 = (cur.toList.take (n * 1)).take (i0 * 1):=by rw [List.take_take]; congr 1; omega
    rw [e3]
    exact h10'.take _
   ·have:∀ m,RepL K (List.replicate m z) (List.replicate m [I.v z]).flatten:=by
     intro m
     induction m with
     | zero => exact .nil
     | succ m ih => exact .cons (.v hz) ih
    exact this _
 have hI:=zr6 hi2 hput (zba hob rfl)
 have hSe:setAt s.S 1 nm (.arr ty 1 n (xs.take i0 ++ List.replicate (n - i0) [.v z]) true) = H0 :: ((nm,.arr ty 1 n (xs.take i0 ++ List.replicate (n - i0) [.v z]) true) :: H1) :: O:=by rw [hS]; rfl
 rw [hSe] at hI
 have hp2:(a.put o.dst vs).put o2.dst (.tuple #[]) = a.put o.dst vs:=by rw [hd2]; rfl
 rw [hp2]
 exact h K ρ _ w2 hI
theorem znI (hT:TOk c.P c.T) (hfn:c.P.funcs[c.f]? = some c.fn) {i j td t ty nm n i0:Nat} {x lo:Operand} {kd:IntKind} {o2:Oper} {ti1 ti2:TI} {xs:List (List I)} {z:Value} {cl:Call} (hi0:i0 < n)
  (ho:ops[i]? = some o) (hg:o.guard = none) (hd:o.dst = some td) (hop:o.op = .slice t x (some lo) none none) (h1:look c.T t = some ti1) (hk1:ti1.k = .slice ty) (h2:look c.T ty = some ti2) (hz1:ti2.size = 1) (hzz:ti2.zero = [z])
  (hzv:∀ w,(zeroValue ty).run c.P w = .ok z w) (hzc:z.cells = #[z]) (hz:z.oneCell' = true)
  (ho2:ops[j]? = some o2) (hg2:o2.guard = none) (hd2:o2.dst = none) (hop2:o2.op = .call cl) (hc1:cl.callee = .builtin .clear) (hc2:cl.args = #[.tmp td]) (hc3:cl.argTypes = #[t])
  (hx:evD s x = .osl 1 nm) (hlo:evD s lo = .i (.v (.int kd i0))) (hS:s.S = H0 :: H1 :: O) (hl:look H1 nm = some (.arr ty 1 n xs true)) (hn:Nat.ble (td + 1) s.n = true)
  (h:GM c (run c.T c.stop 1000 (.inRegion ops rest :: k) { σ:=(td,.dead) :: s.σ,S:=H0 :: ((nm,.arr ty 1 n (xs.take i0 ++ List.replicate (n - i0) [.v z]) true) :: H1) :: O,n:=s.n })):GM c (.pause ops i (j :: rest) o s k):=
 ⟨zjU hT hi0 ho hg hd hop h1 hk1 h2 hz1 hzz hzv hzc hz ho2 hg2 hd2 hop2 hc1 hc2 hc3 hx hlo hS hl hn (zaF hT hfn 1000 (.inRegion ops rest :: k) _ h.h)⟩
theorem zkn (hT:TOk c.P c.T) (hfn:c.P.funcs[c.f]? = some c.fn) {i td t ty nm n m es:Nat} {x hi0:Operand} {kd:IntKind} {ti1 ti2:TI} {xs:List (List I)} (hm:m ≤ n) (hn0:0 < n)
  (ho:ops[i]? = some o) (hg:o.guard = none) (hd:o.dst = some td) (hop:o.op = .slice t x none (some hi0) none) (h1:look c.T t = some ti1) (hk1:ti1.k = .slice ty) (h2:look c.T ty = some ti2) (hes:ti2.size = es)
  (hx:evD s x = .osl 1 nm) (hlo:evD s hi0 = .i (.v (.int kd m))) (hS:s.S = H0 :: H1 :: O) (hl:look H1 nm = some (.arr ty es n xs true)) (hn:Nat.ble (td + 1) s.n = true)
  (h:∀ E',Moved c.E E' nm → GM { c with E:=E' } (run c.T c.stop 1000 (.inRegion ops rest :: k) { σ:=(td,.osl 1 nm) :: zix nm s.σ,S:=zd3 nm H0 :: ((nm,.arr ty es m (xs.take m) true) :: zaT nm H1) :: O,n:=s.n })):GM c (.pause ops i rest o s k):=by
 subst hes
 refine ⟨?_⟩
 intro K ρ a w hi
 simp only [wpOps,ho,za7 hi (show zav ops s o = some true by unfold zav; rw [hg]),if_true]
 refine .inl ?_
 have hok1:=hT _ _ h1
 have hok2:=hT _ _ h2
 have hu:c.P.underlying t = some (.slice ty):=by have:=hok1.kind; rw [hk1] at this; exact this
 have hh:=hi.h
 rw [hS] at hh
 have hob:zaa (H0 :: H1 :: O) 1 nm = some (.arr ty ti2.size n xs true):=by simpa [zaa] using hl
 have hsh:shape (H0 :: H1 :: O) 1 nm = some (.arr ti2.size n):=by simp [shape,hob,Ob.sh]
 have hrx:=hi.ev x
 rw [hx,hS] at hrx
 have hxv:=zcg hrx hsh
 have hrl:=hi.ev hi0
 rw [hlo] at hrl
 have hlv:=zaM hrl
 have hown:=hh.own _ _ _ hob
 obtain ⟨h3,h4,h5,h6,h7⟩:=hown
 rcases h7 with ⟨h7,_⟩ | ⟨h7,cur,h8,h9,h10,h11,h12,h13⟩
 ·exfalso; omega
 have hib:(0:Int) ≤ (m:Int) ∧ (m:Int) ≤ ((ρ 1 nm).cap:Int):=by omega
 have hrun:=zfW (P:=c.P) (w:=w) t ty ti2 hu hok2 (ρ 1 nm).base n (ρ 1 nm).cap none (some (.int kd m)) none 0 m (ρ 1 nm).cap (by simp [Instr.sliceBounds,zb3 hib])
 have hexec:(execOp a.eval o).run c.P w = .ok (.value (.slice (ρ 1 nm).base m (ρ 1 nm).cap)) w:=by
  have e:(if (ρ 1 nm).cap = 0 then (ρ 1 nm).base else (ρ 1 nm).base.map (·.add (0 * ti2.size))) = (ρ 1 nm).base:=by
   rw [if_neg (by omega),h7]
   simp [Addr.add]
  rw [e,Nat.sub_zero,Nat.sub_zero] at hrun
  simp only [execOp,hop,hxv,Option.map_some,Option.map_none,hlv,Sem.run_bind,hrun,Result.andThen_ok,Sem.run_pure]
 have hap:Apnd K w w (ρ 1 nm) (ρ 1 nm):=⟨Nat.le_refl _,fun _ _ _ => rfl,⟨rfl,rfl,rfl⟩,fun e => .inr ⟨e,rfl⟩⟩
 have hown':∀ (ρ':Nat → Nat → Loc) (sh':Nat → Nat → Option Sh),OwnAt K ρ' sh' w (ρ 1 nm) (.arr ty ti2.size m (xs.take m) true):=fun ρ' sh' => by
  refine ⟨fun d hdm => h3 d (List.mem_of_mem_take hdm),by rw [List.length_take]; omega,by omega,h6,.inr ⟨h7,cur,h8,h9,?_,fun _ => h11 rfl,fun o _ => h11 rfl o,fun e => by cases e⟩⟩
  have h10':RepL K (cur.toList.take (n * ti2.size)) xs.flatten:=h10
  rw [← zgE m h3 (by omega)]
  have e3:cur.toList.take (m * ti2.size) = (cur.toList.take (n * ti2.size)).take (m * ti2.size):=by rw [List.take_take,Nat.min_eq_left (Nat.mul_le_mul_right _ hm)]
  rw [e3]
  exact h10'.take _
 obtain ⟨E',hM,hI,hbut⟩:=hh.renew1 hl hap Iff.rfl (ob':=.arr ty ti2.size m (xs.take m) true) Iff.rfl (fun _ => h11 rfl) hown'
 simp only [Oper.wp,hexec,Oper.upon]
 have hk:=zaF (c:={ c with E:=E' }) hT hfn 1000 (.inRegion ops rest :: k) _ (h E' hM).h
 refine hk K (upd1 ρ nm (ρ 1 nm)) _ w ?_
 rw [hd]
 refine ⟨hI,hi.defers,by simp [Act.put]; exact hi.size,fun t' d' e' => ?_⟩
 rw [zbp (by rw [hi.size]; exact Nat.le_of_ble_eq_true hn)]
 simp only [zab] at e'
 split at e'
 ·rename_i e2
  simp only [Option.some.injEq] at e'
  subst e'
  rw [if_pos e2]
  have hsh:shape (zd3 nm H0 :: ((nm,Ob.arr ty ti2.size m (xs.take m) true) :: zaT nm H1) :: O) 1 nm = some (.arr ti2.size m):=by simp [shape,zaa,zab,Ob.sh]
  have:=RepD.osl (K:=K) (ρ:=upd1 ρ nm (ρ 1 nm)) hsh
  rwa [zcU] at this
 ·rename_i e2
  rw [if_neg e2]
  rw [ze7] at e'
  cases hls:look s.σ t' with
  | none => simp [hls] at e'
  | some d0 =>
   simp only [hls,Option.map_some,Option.some.injEq] at e'
   subst e'
   have hr:=hi.slots _ _ hls
   rw [hS] at hr
   exact hr.cut1 hbut
end
end Go.AI


namespace Go.AI
open Go.Proofs
set_option maxRecDepth 20000
theorem zvj (O:List Heap) (l:List Int) (e w:Nat) (ho:zaa O e w = some (zaw l)) (f:Nat) (d nm:Nat) (p:Int → Bool) (hl:l.length ≤ zas) (hp:∀ x ∈ l,zan Tryz.prog f [ii x,.own (d + 1) nm 0 0] ([] :: O) (bb (p x)) [] ([] :: O)) :
  zan Tryz.prog 104 [.osl e w,.fn (.func f) [] [.own d nm 0 0]] O (ii (zay p l 0)) [] O:=by
 have hO:∀ H,zaa (H :: O) (e + 1) w = some (zaw l):=fun H => zaI ho
 generalize hR:zay p l 0 = R
 refine zad Tk Tryz.func104 rfl Tryz.call104 Tryz.ntmps104 (Nat.le_of_ble_eq_true rfl) fun E => ?_
 refine zae Tk Tryz.func104 ?_
 refine zbg Tk Tryz.func104 (hO _) ?_
 refine zac ?_
 refine zah (fun i:Nat => [(0,.osl (e + 1) w),(1,.fn (.func f) [] [.own (d + 1) nm 0 0]),(7,ii l.length),(8,ii i)]) (fun _ => []) (fun _ => O) 19
  (fun i => i ≤ l.length ∧ zay p (l.drop i) i = R) (fun i => l.length - i) 0 ⟨Nat.zero_le _,hR⟩ ⟨rfl,rfl,rfl,rfl,trivial⟩ rfl trivial rfl rfl ?_
 rintro i ⟨hi,hno⟩ ih
 clear hR
 refine zae Tk Tryz.func104 ?_
 refine zai Tk Tryz.func104 rfl (fun g1 => ?_) (fun g1 => ?_)
 ·have h1:i < l.length:=by simpa using g1
  have gs:(l.map fun x => [vi x])[(i:Int).toNat]? = some [vi l[i]]:=zaj (f:=fun x => [vi x]) h1
  have hps:=hp l[i] (List.getElem_mem h1)
  have hd:l.drop i = l[i] :: l.drop (i + 1):=List.drop_eq_getElem_cons h1
  rw [hd] at hno
  simp only [zay] at hno
  clear hd
  generalize l[i] = s at *
  refine zbg Tk Tryz.func104 (hO _) ?_
  refine zag Tk Tryz.func104 (by exact ⟨by omega,by show (i:Int) < (l.length:Int); omega⟩) ?_
  refine zbg Tk Tryz.func104 (hO _) ?_
  refine zap Tk Tryz.func104 (gs) ?_
  refine zaf Tk Tryz.func104 (hps) rfl rfl rfl rfl rfl ?_
  refine zai Tk Tryz.func104 rfl (fun g2 => ?_) (fun g2 => ?_)
  ·rw [if_pos g2] at hno
   subst hno
   refine zal Tk (r:=ii (i:Int)) rfl rfl rfl trivial rfl rfl ?_
   rfl
  ·rw [if_neg (by rw [g2]; simp)] at hno
   refine zac ?_
   exact ih (i + 1) _ _ ⟨h1,hno⟩ (by omega) ⟨rfl,rfl,rfl,congrArg ii (zaB h1 hl),trivial⟩ rfl trivial rfl rfl
 ·have h1:l.length ≤ i:=by simpa using g1
  rw [List.drop_eq_nil_of_le h1] at hno
  simp only [zay] at hno
  subst hno
  refine zal Tk (r:=ii (-1)) rfl rfl rfl trivial rfl rfl ?_
  rfl
theorem zgH {α:Type} (p:α → Bool):∀ (l:List α) (i:Nat),(zay p l i = -1 ∧ ∀ x ∈ l,p x = false) ∨ ∃ k,∃ h:k < l.length,zay p l i = ((i + k:Nat):Int) ∧ p l[k] = true ∧ ∀ x ∈ l.take k,p x = false
 | [],i => .inl ⟨rfl,by simp⟩
 | x :: r,i => by
  by_cases h:p x = true
  ·exact .inr ⟨0,by simp,by simp [zay,h],h,by simp⟩
  ·have h':p x = false:=by simpa using h
   have e:zay p (x :: r) i = zay p r (i + 1):=if_neg h
   rcases zgH p r (i + 1) with ⟨h1,h2⟩ | ⟨k,hk,h1,h2,h3⟩
   ·refine .inl ⟨e.trans h1,fun y hy => ?_⟩
    rcases List.mem_cons.1 hy with rfl | hy
    ·exact h'
    ·exact h2 y hy
   ·refine .inr ⟨k + 1,by simpa using hk,by rw [e,h1]; congr 1; omega,by simpa using h2,fun y hy => ?_⟩
    rw [List.take_succ_cons] at hy
    rcases List.mem_cons.1 hy with rfl | hy
    ·exact h'
    ·exact h3 y hy
theorem zpm {nm:Nat} {a b:Ob} {R H:Heap} {O:List Heap} (d n:Nat):zaa (H :: ((nm,a) :: R) :: O) d n = zaa (H :: ((nm,a) :: (nm,b) :: R) :: O) d n:=by
 match d with
 | 0 => rfl
 | 1 =>
  simp only [zaa,List.getElem?_cons_succ,List.getElem?_cons_zero,zab]
  by_cases h:nm = n <;> simp [h]
 | d + 2 => rfl
end Go.AI


namespace Go.AI
open Go.Proofs
set_option maxRecDepth 20000
end Go.AI


namespace Go.AI
open Go.Proofs
set_option maxRecDepth 20000
def keyL:List UInt8 → List Int → List UInt8
 | T,[] => T
 | T,n :: r => keyL (T ++ (zkd n).data.toList ++ [32]) r
end Go.AI


namespace Go.AI
open Go.Proofs
def numB (x:Int):List UInt8:=(zkd x).data.toList
def decN (l:List UInt8):Int:=l.foldl (fun a c => a * 10 + ((c.toNat:Int) - 48)) 0
theorem zu3:((List.range 64).all fun (k:Nat) => decide (decN (numB (k:Int)) = (k:Int)) && (numB (k:Int)).all fun c => decide (48 ≤ c.toNat ∧ c.toNat ≤ 57)) = true:=by kernel_rfl
theorem zj5 {x:Int} (h:0 ≤ x ∧ x < 64):decN (numB x) = x ∧ ∀ c ∈ numB x,48 ≤ c.toNat ∧ c.toNat ≤ 57:=by
 have h1:=List.all_eq_true.1 zu3 x.toNat (List.mem_range.2 (by omega))
 simp only [Bool.and_eq_true,decide_eq_true_eq,List.all_eq_true] at h1
 have e:((x.toNat:Nat):Int) = x:=by omega
 rw [e] at h1
 exact h1
def encL (l:List Int):List UInt8:=l.flatMap fun x => numB x ++ [32]
theorem zii:∀ (l:List Int) (T:List UInt8),keyL T l = T ++ encL l
 | [],T => by simp [keyL,encL]
 | x :: r,T => by
  rw [keyL,zii r]
  simp [encL,numB]
theorem zft {c:UInt8} (hc:¬ (48 ≤ c.toNat ∧ c.toNat ≤ 57)):∀ {a b u v:List UInt8},(∀ x ∈ a,48 ≤ x.toNat ∧ x.toNat ≤ 57) → (∀ x ∈ b,48 ≤ x.toNat ∧ x.toNat ≤ 57) → a ++ c :: u = b ++ c :: v → a = b ∧ u = v
 | [],[],u,v,_,_,h => by simpa using h
 | [],y :: b,u,v,_,hb,h => by
  simp only [List.nil_append,List.cons_append,List.cons.injEq] at h
  exact absurd (h.1 ▸ hb y (by simp)) hc
 | x :: a,[],u,v,ha,_,h => by
  simp only [List.nil_append,List.cons_append,List.cons.injEq] at h
  exact absurd (h.1 ▸ ha x (by simp)) hc
 | x :: a,y :: b,u,v,ha,hb,h => by
  simp only [List.cons_append,List.cons.injEq] at h
  obtain ⟨h1,h2⟩:=zft hc (a:=a) (b:=b) (fun x hx => ha x (by simp [hx])) (fun x hx => hb x (by simp [hx])) h.2
  exact ⟨by rw [h.1,h1],h2⟩
theorem zsT {x:Int} (h:0 ≤ x ∧ x < 64) {u v:List UInt8} (e:numB x ++ 32 :: u = 59 :: v):False:=by
 cases hn:numB x with
 | nil => rw [hn] at e; simp at e
 | cons c r =>
  rw [hn] at e
  simp only [List.cons_append,List.cons.injEq] at e
  have:=(zj5 h).2 c (by rw [hn]; simp)
  rw [e.1] at this
  exact absurd this (by decide)
theorem zjx:∀ {a b:List Int} {u v:List UInt8},(∀ x ∈ a,0 ≤ x ∧ x < 64) → (∀ x ∈ b,0 ≤ x ∧ x < 64) → encL a ++ 59 :: u = encL b ++ 59 :: v → a = b ∧ u = v
 | [],[],u,v,_,_,h => by simpa [encL] using h
 | [],y :: b,u,v,_,hb,h => by
  refine (zsT (x:=y) (hb y (by simp)) (u:=encL b ++ 59 :: v) (v:=u) ?_).elim
  simp only [encL,List.flatMap_nil,List.nil_append,List.flatMap_cons,List.append_assoc,List.singleton_append] at h
  rw [h]; rfl
 | x :: a,[],u,v,ha,_,h => by
  refine (zsT (x:=x) (ha x (by simp)) (u:=encL a ++ 59 :: u) (v:=v) ?_).elim
  simp only [encL,List.flatMap_nil,List.nil_append,List.flatMap_cons,List.append_assoc,List.singleton_append] at h
  rw [← h]; rfl
 | x :: a,y :: b,u,v,ha,hb,h => by
  simp only [encL,List.flatMap_cons,List.append_assoc,List.singleton_append] at h
  have hx:=zj5 (ha x (by simp))
  have hy:=zj5 (hb y (by simp))
  obtain ⟨h1,h2⟩:=zft (c:=32) (by decide) hx.2 hy.2 h
  obtain ⟨h3,h4⟩:=zjx (a:=a) (b:=b) (fun x hx => ha x (by simp [hx])) (fun x hx => hb x (by simp [hx])) h2
  have e:x = y:=by rw [← hx.1,← hy.1,h1]
  exact ⟨by rw [e,h3],h4⟩
section
variable {S:Type} [DecidableEq S]
def bvis (nx:S → Int → S) (ok:S → Bool) (x:S × List Int):List Int → List (S × List Int) → List (S × List Int)
 | [],l => l
 | ev :: r,l => bvis nx ok x r (if ok (nx x.1 ev) = true ∧ ∀ z ∈ l,z.1 ≠ nx x.1 ev then l ++ [(nx x.1 ev,x.2 ++ [ev])] else l)
def bsr (nx:S → Int → S) (ok:S → Bool) (evs:S → List Int) (bad:S → Bool):Nat → Nat → List (S × List Int) → Option (S × List Int)
 | 0,_,_ => none
 | f + 1,i,l => match l[i]? with
  | none => none
  | some x => if bad x.1 = true then some x else bsr nx ok evs bad f (i + 1) (bvis nx ok x (evs x.1) l)
structure bOk (V:List S) (l:List (S × List Int)):Prop where
 nd:(l.map (·.1)).Nodup
 el:∀ z ∈ l,z.1 ∈ V
 wl:∀ (j:Nat) z,l[j]? = some z → z.2.length ≤ j
theorem zeu {V:List S} {l:List (S × List Int)} (h:bOk V l):l.length ≤ V.length:=by
 have:=zbl h.nd (m:=V) fun s hs => by obtain ⟨z,hz,rfl⟩:=List.mem_map.1 hs; exact h.el z hz
 simpa using this
theorem zkJ {V:List S} {s:S} (h:s ∈ V):bOk V [(s,[])]:=⟨by simp,by simpa using h,fun j z hz => by
 cases j with
 | zero => simp at hz; subst hz; simp
 | succ j => simp at hz⟩
theorem zkK {V:List S} {l:List (S × List Int)} (h:bOk V l) {i:Nat} {x:S × List Int} (hi:l[i]? = some x) {t:S} (ht:t ∈ V) (hn:∀ z ∈ l,z.1 ≠ t) (ev:Int):bOk V (l ++ [(t,x.2 ++ [ev])]):=by
 refine ⟨?_,fun z hz => ?_,fun j z hz => ?_⟩
 ·rw [List.map_append]
  unfold List.Nodup
  rw [List.pairwise_append]
  refine ⟨h.nd,List.pairwise_singleton _ _,fun a ha b hb => ?_⟩
  obtain ⟨z,hz,rfl⟩:=List.mem_map.1 ha
  simp only [List.map_cons,List.map_nil,List.mem_singleton] at hb
  subst hb
  exact hn z hz
 ·rcases List.mem_append.1 hz with hz | hz
  ·exact h.el z hz
  ·rw [List.mem_singleton] at hz; subst hz; exact ht
 ·rw [List.getElem?_append] at hz
  split at hz
  ·exact h.wl j z hz
  ·rename_i hj
   have hlt:=(List.getElem?_eq_some_iff.1 hz).1
   simp only [List.length_singleton] at hlt
   rw [show j - l.length = 0 by omega] at hz
   simp only [List.getElem?_cons_zero,Option.some.injEq] at hz
   subst hz
   have:=h.wl i x hi
   have:=(List.getElem?_eq_some_iff.1 hi).1
   simp only [List.length_append,List.length_singleton]
   omega
theorem zmo {nx:S → Int → S} {ok:S → Bool} {evs:S → List Int} {bad:S → Bool} {l:List (S × List Int)} {i:Nat} (h:l.length ≤ i):∀ f,bsr nx ok evs bad f i l = none
 | 0 => rfl
 | f + 1 => by simp only [bsr,List.getElem?_eq_none h]
end
end Go.AI


namespace Go.AI
open Go.Proofs
set_option maxRecDepth 20000
theorem zbO:∀ {n:Nat} {l:List Int},l ∈ subs n → l.length ≤ n ∧ ∀ x ∈ l,0 ≤ x ∧ x < (n:Int)
 | 0,l,h => by
  simp only [subs,List.mem_singleton] at h
  subst h
  simp
 | n + 1,l,h => by
  simp only [subs,List.mem_append,List.mem_map] at h
  rcases h with h | ⟨m,h,rfl⟩
  ·obtain ⟨h1,h2⟩:=zbO h
   exact ⟨by omega,fun x hx => by have:=h2 x hx; omega⟩
  ·obtain ⟨h1,h2⟩:=zbO h
   refine ⟨by simp only [List.length_append,List.length_singleton]; omega,fun x hx => ?_⟩
   rcases List.mem_append.1 hx with hx | hx
   ·have:=h2 x hx; omega
   ·rw [List.mem_singleton] at hx; omega
abbrev PS:=List Int × List Int
end Go.AI


namespace Go.AI
open Go.Proofs
set_option maxRecDepth 20000
abbrev zcD (a:Aut) (l:List Int):Bool:=l.any fun x => decide (x ∈ a.marked)
end Go.AI


namespace Go.AI
open Go.Proofs
set_option maxRecDepth 20000
theorem zcP:∀ {es:List Edg},es.Pairwise ltE → ∀ {e:Edg},e ∈ es → stp3 es e.1 e.2.1 = e.2.2
 | [],_,e,h => by cases h
 | x :: r,hp,e,h => by
  rw [List.pairwise_cons] at hp
  unfold stp3
  rcases List.mem_cons.1 h with rfl | h
  ·rw [if_pos ⟨rfl,rfl⟩]
  ·have:=hp.1 e h
   unfold ltE at this
   rw [if_neg (by omega)]
   exact zcP hp.2 h
end Go.AI


namespace Go.AI
open Go.Proofs
set_option maxRecDepth 20000
end Go.AI


namespace Go.AI
open Go.Proofs
set_option maxRecDepth 20000
end Go.AI


namespace Go.AI
section
variable {c:Cx} {ops:Array Oper} {O:List Heap} {n:Nat} {F:SH → List Pl → Prop}
end
end Go.AI


namespace Go.AI
open Go.Proofs
set_option maxRecDepth 20000
def zil (n:Nat):List Int:=(List.range n).map fun (k:Nat) => (k:Int)
theorem zdw {n:Nat} {x:Int}:x ∈ zil n ↔ 0 ≤ x ∧ x < (n:Int):=by
 unfold zil
 simp only [List.mem_map,List.mem_range]
 exact ⟨fun ⟨k,h,e⟩ => by omega,fun h => ⟨x.toNat,by omega,by omega⟩⟩
theorem zgw (n:Nat):(zil n).length = n:=by simp [zil]
def evC (es:List Edg) (s:Int):List Int:=(es.filter fun e => e.1 == s).map fun e => e.2.1
end Go.AI


namespace Go.AI
open Go.Proofs
set_option maxRecDepth 20000
theorem zhO:∀ {es:List Edg} {s ev:Int},(∀ e ∈ es,¬ (e.1 = s ∧ e.2.1 = ev)) → stp3 es s ev = -1
 | [],_,_,_ => rfl
 | x :: r,s,ev,h => by
  unfold stp3
  rw [if_neg (h x (by simp))]
  exact zhO fun e he => h e (by simp [he])
end Go.AI


namespace Go.AI
open Go.Proofs
set_option maxRecDepth 20000
def nxtL (es:List Edg) (p:Int → Bool) (n:Nat) (l:List Int) (obs:List Int):List Int:=obs.foldl (nxt es p n) l
end Go.AI


namespace Go.AI
open Go.Proofs
inductive FrzA (nm:Nat) (d:I):List D → List D → Prop
 | nil:FrzA nm d [] []
 | i {x:I} {l m:List D}:FrzA nm d l m → FrzA nm d (.i x :: l) (.i x :: m)
 | osl {l m:List D}:FrzA nm d l m → FrzA nm d (.osl 0 nm :: l) (.i d :: m)
end Go.AI


namespace Go.AI
open Go.Proofs
set_option maxRecDepth 20000
end Go.AI


namespace Go.AI
open Go.Proofs
set_option maxRecDepth 20000
end Go.AI


namespace Go.AI
open Go.Proofs
set_option maxRecDepth 100000
end Go.AI


namespace Go.AI
open Go.Proofs
set_option maxRecDepth 20000
structure gAut (a:Aut) (n:Nat):Prop where
 st:a.states = n
 sm:smallA a
 c:chkA a = 0
theorem gAut.to {a:Aut} {n:Nat} (h:gAut a n):∀ e ∈ a.edges,0 ≤ e.2.2 ∧ e.2.2 < (n:Int):=fun e he => by have:=(zdd h.c).2.1 e he; rw [h.st] at this; exact this
theorem gAut.fr {a:Aut} {n:Nat} (h:gAut a n):∀ e ∈ a.edges,0 ≤ e.1 ∧ e.1 < (n:Int):=fun e he => by have:=(zdd h.c).1 e he; rw [h.st] at this; exact this
theorem gAut.ev {a:Aut} {n:Nat} (h:gAut a n):∀ e ∈ a.edges,e.2.1 ∈ a.alpha:=(zdd h.c).2.2
theorem gAut.pw {a:Aut} {n:Nat} (h:gAut a n):a.edges.Pairwise ltE:=(zbh (zaK h.c).2.2.2).1
abbrev zv8 (a:Aut) (on:List Int):List Int:=a.alpha.filter fun x => !decide (x ∈ on)
theorem zqi {a:Aut} {n:Nat} (h:gAut a n) (on un l:List Int):clo a.edges (fun x => decide (x ∈ zv8 a on)) n l = clo a.edges (lowP on un false) n l:=
 zeR h.to (fun e he => by
  have h1:=h.ev e he
  show decide (e.2.1 ∈ a.alpha.filter fun x => !decide (x ∈ on)) = (!decide (e.2.1 ∈ on) && (!false || _))
  simp [List.mem_filter,h1]) fun _ => Iff.rfl
theorem zuC (es:List Edg) (p:Int → Bool) (n:Nat) (l:List Int):(clo es p n l).length ≤ n:=zfP _ _
end Go.AI


namespace Go.AI
open Go.Proofs
set_option maxRecDepth 20000
end Go.AI


namespace Go.AI
open Go.Proofs
set_option maxRecDepth 20000
end Go.AI


namespace Go.AI
open Go.Proofs
set_option maxRecDepth 20000
def okX (y:PS):Bool:=decide (y.1.length > 0)
end Go.AI


namespace Go.AI
open Go.Proofs
set_option maxRecDepth 20000
section
variable {S:Type} [DecidableEq S]
def zfn (nx:S → Int → S) (ok:S → Bool) (evs:S → List Int):Nat → Nat → List (S × List Int) → List (S × List Int)
 | 0,_,l => l
 | f + 1,i,l => match l[i]? with
  | none => l
  | some x => zfn nx ok evs f (i + 1) (bvis nx ok x (evs x.1) l)
end
end Go.AI


namespace Go.AI
section
variable {S:Type} [DecidableEq S]
theorem zcp (nx:S → Int → S) (ok:S → Bool) (x:S × List Int):∀ (es:List Int) (l:List (S × List Int)),l <+: bvis nx ok x es l
 | [],l => List.prefix_refl l
 | ev :: r,l => by
  simp only [bvis]
  split
  ·exact (List.prefix_append _ _).trans (zcp nx ok x r _)
  ·exact zcp nx ok x r l
theorem zgT (nx:S → Int → S) (ok:S → Bool) (evs:S → List Int):∀ (f i:Nat) (l:List (S × List Int)),l <+: zfn nx ok evs f i l
 | 0,_,l => List.prefix_refl l
 | f + 1,i,l => by
  simp only [zfn]
  split
  ·exact List.prefix_refl l
  ·exact (zcp nx ok _ _ l).trans (zgT nx ok evs f (i + 1) _)
theorem zgS {V:List S} {nx:S → Int → S} {ok:S → Bool} {x:S × List Int} {i:Nat}:∀ {es:List Int} {l:List (S × List Int)},(∀ ev ∈ es,ok (nx x.1 ev) = true → nx x.1 ev ∈ V) → bOk V l → l[i]? = some x → bOk V (bvis nx ok x es l)
 | [],l,_,h,_ => h
 | ev :: r,l,hv,h,hi => by
  have hv2:∀ ev ∈ r,ok (nx x.1 ev) = true → nx x.1 ev ∈ V:=fun e he => hv e (by simp [he])
  simp only [bvis]
  split
  ·rename_i hc
   refine zgS (i:=i) hv2 (zkK h hi (hv ev (by simp) hc.1) hc.2 ev) ?_
   have:i < l.length:=(List.getElem?_eq_some_iff.1 hi).1
   rw [List.getElem?_append_left this]
   exact hi
  ·exact zgS hv2 h hi
theorem zmp {V:List S} {nx:S → Int → S} {ok:S → Bool} {evs:S → List Int} (hv:∀ x ∈ V,∀ ev ∈ evs x,ok (nx x ev) = true → nx x ev ∈ V):∀ (f i:Nat) (l:List (S × List Int)),bOk V l → bOk V (zfn nx ok evs f i l)
 | 0,_,l,h => h
 | f + 1,i,l,h => by
  simp only [zfn]
  cases hi:l[i]? with
  | none => exact h
  | some x =>
   have hx:x.1 ∈ V:=h.el x (List.mem_of_getElem? hi)
   exact zmp hv f (i + 1) _ (zgS (hv x.1 hx) h hi)
theorem zmn {V:List S} {nx:S → Int → S} {ok:S → Bool} {evs:S → List Int} {bad:S → Bool} (hv:∀ x ∈ V,∀ ev ∈ evs x,ok (nx x ev) = true → nx x ev ∈ V) {N:Nat} (hN:V.length < N):∀ (f i:Nat) (l:List (S × List Int)),f + i = N → i ≤ l.length → bOk V l → (∀ z ∈ l.take i,bad z.1 = false) →
  bsr nx ok evs bad f i l = (zfn nx ok evs f i l).find? fun z => bad z.1
 | 0,i,l,hf,hi,h,_ => by
  have:=zeu h
  omega
 | f + 1,i,l,hf,hi,h,hb => by
  simp only [bsr,zfn]
  cases hg:l[i]? with
  | none =>
   have:l.length ≤ i:=by
    rcases Nat.lt_or_ge i l.length with h1 | h1
    ·rw [List.getElem?_eq_getElem h1] at hg; cases hg
    ·exact h1
   rw [List.take_of_length_le this] at hb
   simp only
   symm
   rw [List.find?_eq_none]
   intro z hz
   rw [hb z hz]; simp
  | some x =>
   have hlt:i < l.length:=(List.getElem?_eq_some_iff.1 hg).1
   have hx:x.1 ∈ V:=h.el x (List.mem_of_getElem? hg)
   have htk:l.take (i + 1) = l.take i ++ [x]:=by rw [List.take_add_one,hg]; rfl
   simp only
   by_cases hbx:bad x.1 = true
   ·rw [if_pos hbx]
    obtain ⟨r1,hr1⟩:=zcp nx ok x (evs x.1) l
    obtain ⟨r2,hr2⟩:=zgT nx ok evs f (i + 1) (bvis nx ok x (evs x.1) l)
    rw [← hr2,← hr1]
    have hl:l = l.take i ++ (x :: l.drop (i + 1)):=by
     have h0:=List.take_append_drop (i + 1) l
     rw [htk,List.append_assoc] at h0
     exact h0.symm
    symm
    rw [hl,List.append_assoc,List.append_assoc,List.find?_append,List.find?_eq_none.2 (fun z hz => by rw [hb z hz]; simp),Option.none_or,List.cons_append,List.find?_cons,hbx]
   ·rw [if_neg hbx]
    have hp:=zcp nx ok x (evs x.1) l
    refine zmn hv hN f (i + 1) _ (by omega) (Nat.le_trans hlt hp.length_le) (zgS (hv x.1 hx) h hg) fun z hz => ?_
    have e:(bvis nx ok x (evs x.1) l).take (i + 1) = l.take (i + 1):=by
     obtain ⟨r,hr⟩:=hp
     rw [← hr,List.take_append_of_le_length (by omega)]
    rw [e,htk,List.mem_append,List.mem_singleton] at hz
    rcases hz with hz | rfl
    ·exact hb z hz
    ·simpa using hbx
end
section
variable {S:Type} [DecidableEq S]
theorem zmm {nx:S → Int → S} {ok:S → Bool} {x:S × List Int}:∀ {es:List Int} {l:List (S × List Int)} {ev:Int},ev ∈ es → ok (nx x.1 ev) = true → ∃ w ∈ bvis nx ok x es l,w.1 = nx x.1 ev
 | e :: r,l,ev,h,c => by
  rcases List.mem_cons.1 h with rfl | h
  ·simp only [bvis]
   by_cases c2:∀ z ∈ l,z.1 ≠ nx x.1 ev
   ·rw [if_pos ⟨c,c2⟩]
    exact ⟨(nx x.1 ev,x.2 ++ [ev]),(zcp nx ok x r _).subset (by simp),rfl⟩
   ·rw [if_neg (fun h => c2 h.2)]
    by_cases c3:∃ z ∈ l,z.1 = nx x.1 ev
    ·obtain ⟨z,hz,e⟩:=c3
     exact ⟨z,(zcp nx ok x r l).subset hz,e⟩
    ·exact absurd (fun z hz e => c3 ⟨z,hz,e⟩) c2
  ·simp only [bvis]
   exact zmm h c
end
section
variable {S T:Type} [DecidableEq S] [DecidableEq T]
end
end Go.AI


namespace Go.AI
open Go.Proofs
set_option maxRecDepth 20000
end Go.AI


namespace Go.AI
open Go.Proofs
set_option maxRecDepth 20000
theorem zfu {n:Int}:∀ {l:List Int} {y:Int},zak n l (some y) = 0 → y + 1 ≤ n → (l.length:Int) ≤ n - 1 - y
 | [],y,_,h => by simp only [List.length_nil]; omega
 | x :: r,y,h,hy => by
  simp only [zak] at h
  by_cases h1:x < 0 ∨ x ≥ n
  ·rw [if_pos h1] at h; exact absurd h (by decide)
  rw [if_neg h1] at h
  by_cases h2:(some y).any (x ≤ ·) = true
  ·rw [if_pos h2] at h; exact absurd h (by decide)
  rw [if_neg h2] at h
  have hxy:y < x:=by simpa using h2
  have:=zfu h (by omega)
  simp only [List.length_cons]
  omega
theorem zaX {n:Int} (hn:0 ≤ n):∀ {l:List Int},zak n l none = 0 → (l.length:Int) ≤ n
 | [],_ => by simpa using hn
 | x :: r,h => by
  simp only [zak] at h
  by_cases h1:x < 0 ∨ x ≥ n
  ·rw [if_pos h1] at h; exact absurd h (by decide)
  rw [if_neg h1] at h
  have h':zak n r (some x) = 0:=by simpa using h
  have:=zfu h' (by omega)
  simp only [List.length_cons]
  omega
theorem zbi {n:Int}:∀ {l:List Int} {p:Option Int},l.Pairwise (· < ·) → (∀ x ∈ l,0 ≤ x ∧ x < n) → (∀ y,p = some y → ∀ x ∈ l,y < x) → zak n l p = 0
 | [],_,_,_,_ => rfl
 | x :: r,p,hs,hr,hp => by
  simp only [zak]
  have h1:=hr x (by simp)
  rw [if_neg (by omega),if_neg]
  ·rw [List.pairwise_cons] at hs
   refine zbi hs.2 (fun y hy => hr y (by simp [hy])) (fun y e z hz => ?_)
   simp only [Option.some.injEq] at e
   subst e
   exact hs.1 z hz
  ·cases p with
   | none => simp
   | some y =>
    have:=hp y rfl x (by simp)
    simp only [Option.any_some,decide_eq_true_eq]
    omega
end Go.AI


namespace Go.AI
open Go.Proofs
set_option maxRecDepth 20000
abbrev zBox:Ob:=.box [.i (.v (.slice none 0 0)),ii 0,.i (.v (.slice none 0 0)),.i (.v (.slice none 0 0))]
def cOf (es:List Edg) (F:List Int) (k:Nat) (s ev:Int):Option Edg:=if 0 ≤ stp3 es s ev then some ((k:Int),ev,idxI (stp3 es s ev) F 0) else none
def cMk (F marked:List Int) (i:Nat):List Int:=((List.range i).filter fun k => match F[k]? with
 | none => false
 | some s => decide (s ∈ marked)).map fun (k:Nat) => (k:Int)
def cEd (es:List Edg) (F al:List Int) (i:Nat):List Edg:=(List.range i).flatMap fun k => match F[k]? with
 | none => []
 | some s => al.filterMap (cOf es F k s)
def canR (a:Aut) (F:List Int):Aut:=⟨a.alpha,F.length,cMk F a.marked F.length,cEd a.edges F a.alpha F.length⟩
theorem zsB {F marked:List Int} {i:Nat} {s:Int} (h:F[i]? = some s):cMk F marked (i + 1) = cMk F marked i ++ (if s ∈ marked then [(i:Int)] else []):=by
 unfold cMk
 rw [List.range_succ,List.filter_append,List.map_append]
 congr 1
 simp only [List.filter_cons,List.filter_nil,h]
 by_cases hm:s ∈ marked <;> simp [hm]
theorem zsC {es:List Edg} {F al:List Int} {i:Nat} {s:Int} (h:F[i]? = some s):cEd es F al (i + 1) = cEd es F al i ++ al.filterMap (cOf es F i s):=by
 unfold cEd
 rw [List.range_succ,List.flatMap_append]
 simp only [List.flatMap_cons,List.flatMap_nil,List.append_nil,h]
theorem zgF {α β:Type} {f:α → List β} {N:Nat}:∀ {l:List α},(∀ x ∈ l,(f x).length ≤ N) → (l.flatMap f).length ≤ N * l.length
 | [],_ => by simp
 | x :: r,h => by
  have h1:=h x (by simp)
  have h2:=zgF (l:=r) fun y hy => h y (by simp [hy])
  simp only [List.flatMap_cons,List.length_append,List.length_cons,Nat.mul_succ]
  omega
theorem zqz {es:List Edg} {F al:List Int} {i:Nat} (h:al.length ≤ 32):(cEd es F al i).length ≤ 32 * i:=by
 unfold cEd
 refine Nat.le_trans (zgF (N:=32) fun k _ => ?_) (by rw [List.length_range]; exact Nat.le_refl _)
 split
 ·simp
 ·exact Nat.le_trans (List.length_filterMap_le _ _) h
theorem zqy {F marked:List Int} {i:Nat}:(cMk F marked i).length ≤ i:=by
 unfold cMk
 rw [List.length_map]
 exact Nat.le_trans (List.length_filter_le _ _) (by simp)
theorem zkG (O:List Heap) (a:Aut) (ha:autOk a) (h1:1 ≤ a.states) (F:List Int) (hF:zb9 a = F) (hFl:F.length ≤ 4096):zan Tryz.prog 76 [autD a] O (autD (canR a F)) [] O:=by
 obtain ⟨c1,c2,c3,c4⟩:=zaK ha.chk
 have hed:=ha.ed
 have hmk:=ha.mkd
 have hal:=zaX (by decide) c1
 have hal:a.alpha.length ≤ 32:=by omega
 have hst:=fun O s ev => zoK O a s ev (by simp only [zas]; omega)
 have hfo:=fun O => zsk O a ha h1
 rw [hF] at hfo
 have hem:=fun O => zmf O a.alpha (by omega)
 have hho:=fun O x => zvl O a.marked x (by simp only [zas]; omega)
 have hix:=fun O x => zr8 O F x (by simp only [zas]; omega)
 have hR:canR a F = ⟨a.alpha,F.length,cMk F a.marked F.length,cEd a.edges F a.alpha F.length⟩:=rfl
 rw [hR]
 clear hR c1 c2 c3 c4 hF
 obtain ⟨al,n,mk,es⟩:=a
 simp only at *
 refine zat [9,14] Tk Tryz.func76 rfl Tryz.call76 Tryz.ntmps76 (Nat.le_of_ble_eq_true rfl) fun E => ?_
 refine zae Tk Tryz.func76 ?_
 refine zaf Tk Tryz.func76 (hfo _) rfl rfl rfl rfl rfl ?_
 refine zaf Tk Tryz.func76 (hem _) rfl rfl rfl rfl rfl ?_
 refine zac ?_
 refine zao (zaO 4 33 3 1 (pre:=[ints al,ii F.length]) (post:=[.i (.v (.slice none 0 0))]) rfl rfl rfl) ?_
 refine zao (zaO 4 68 117 3 (pre:=[ints al,ii F.length,.osl 0 33]) (post:=[]) rfl rfl rfl) ?_
 refine zah (fun i:Nat => [(1,.own 0 1 0 0),(2,.own 0 2 0 0),(3,ints F),(4,.own 0 4 0 0),(5,ii i)]) (fun i => [(1,.box [ints al,ii n,ints mk,edgs es]),(2,zBox),(4,.box [ints al,ii F.length,.osl 0 33,.osl 0 68]),(33,zaw (cMk F mk i)),(68,zbD (cEd es F al i))]) (fun _ => O) 71
  (fun i => i ≤ F.length) (fun i => F.length - i) 0 (Nat.zero_le _) ⟨rfl,rfl,rfl,rfl,rfl,trivial⟩ rfl ⟨rfl,rfl,rfl,rfl,rfl,trivial⟩ rfl rfl ?_
 intro i hi ih
 refine zae Tk Tryz.func76 ?_
 refine zai Tk Tryz.func76 rfl (fun g1 => ?_) (fun g1 => ?_)
 ·have h2:i < F.length:=by simpa using g1
  clear g1
  have hs0:F[i]? = some F[i]:=List.getElem?_eq_getElem h2
  have gs:(F.map fun x => [vi x])[(i:Int).toNat]? = some [vi F[i]]:=zaj (f:=fun x => [vi x]) h2
  generalize F[i] = s at *
  have hm3:=zsB (marked:=mk) hs0
  have hml:=zqy (F:=F) (marked:=mk) (i:=i)
  have n1:0 ≤ (i:Int) ∧ (i:Int) < (F.length:Int):=by omega
  have hh1:=fun O => hho O s
  refine zaD Tk Tryz.func76 zaN rfl ?_
  refine zaz Tk (by exact n1) ?_
  refine zaJ Tk (gs) ?_
  refine za2 Tk (fun _ => hh1 _) rfl rfl rfl ?_
  refine zaS Tk Tryz.func76 (by kernel_rfl) ?_
  apply zcj (P:=True) (s6:={ σ:=[(1,.own 0 1 0 0),(2,.own 0 2 0 0),(3,ints F),(4,.own 0 4 0 0),(5,ii i)],S:=[(1,.box [ints al,ii n,ints mk,edgs es]),(2,zBox),(4,.box [ints al,ii F.length,.osl 0 33,.osl 0 68]),(33,zaw (cMk F mk (i + 1))),(68,zbD (cEd es F al i))] :: O,n:=71 })
  ·intro J
   refine zai Tk Tryz.func76 rfl (fun d1 => ?_) (fun d1 => ?_)
   ·have d1:s ∈ mk:=of_decide_eq_true d1
    rw [if_pos d1] at hm3
    refine zag Tk Tryz.func76 (by exact ⟨by show ((cMk F mk i).length + 1) * 8 ≤ 140737488355328; omega,by show (cMk F mk i).length + 1 ≤ 9223372036854775807; omega⟩) ?_
    refine zax ?_
    refine zaC (J trivial) ⟨rfl,rfl,rfl,rfl,rfl,trivial⟩ rfl ⟨rfl,rfl,rfl,?_,rfl,trivial⟩ rfl rfl
    rw [hm3]
    exact congrArg some (zaL (cMk F mk i) (i:Int))
   ·have d1:s ∉ mk:=of_decide_eq_false d1
    rw [if_neg d1,List.append_nil] at hm3
    refine zax ?_
    refine zaC (J trivial) ⟨rfl,rfl,rfl,rfl,rfl,trivial⟩ rfl ⟨rfl,rfl,rfl,by rw [hm3]; rfl,rfl,trivial⟩ rfl rfl
  ·intro _
   clear hm3 hml hh1
   have hE:=zsC (es:=es) (al:=al) hs0
   have hEl:=zqz (es:=es) (F:=F) (i:=i) hal
   have hst1:=fun O ev => hst O s ev
   refine zae Tk Tryz.func76 ?_
   refine g_go Tk Tryz.func76 ?_
   refine zac ?_
   refine zah (fun j:Nat => [(1,.own 0 1 0 0),(2,.own 0 2 0 0),(3,ints F),(4,.own 0 4 0 0),(5,ii i),(6,ii j)]) (fun j => [(1,.box [ints al,ii n,ints mk,edgs es]),(2,zBox),(4,.box [ints al,ii F.length,.osl 0 33,.osl 0 68]),(33,zaw (cMk F mk (i + 1))),(68,zbD (cEd es F al i ++ (al.take j).filterMap (cOf es F i s)))]) (fun _ => O) 71
    (fun j => j ≤ al.length) (fun j => al.length - j) 0 (Nat.zero_le _) ⟨rfl,rfl,rfl,rfl,rfl,rfl,trivial⟩ rfl ⟨rfl,rfl,rfl,rfl,by show some (zbD (cEd es F al i)) = some (zbD (cEd es F al i ++ [])); rw [List.append_nil],trivial⟩ rfl rfl ?_
   intro j hj ih2
   refine zae Tk Tryz.func76 ?_
   refine zai Tk Tryz.func76 rfl (fun g2 => ?_) (fun g2 => ?_)
   ·have h3:j < al.length:=by simpa using g2
    clear g2
    have ga:(al.map fun x => [vi x])[(j:Int).toNat]? = some [vi al[j]]:=zaj (f:=fun x => [vi x]) h3
    have htk:(al.take (j + 1)).filterMap (cOf es F i s) = (al.take j).filterMap (cOf es F i s) ++ [al[j]].filterMap (cOf es F i s):=by
     rw [List.take_succ_eq_append_getElem h3,List.filterMap_append]
    have hpl:((al.take j).filterMap (cOf es F i s)).length ≤ 32:=Nat.le_trans (List.length_filterMap_le _ _) (by rw [List.length_take]; omega)
    have n2:0 ≤ (j:Int) ∧ (j:Int) < (al.length:Int):=by omega
    have hj1:ii (IntKind.i64.wrap ((j:Int) + 1)) = ii ((j + 1:Nat):Int):=congrArg ii (zaB (n:=1000001) (by omega) (by decide))
    generalize al[j] = ev at *
    have hst2:=fun O => hst1 O ev
    have hco:[ev].filterMap (cOf es F i s) = if 0 ≤ stp3 es s ev then [((i:Int),ev,idxI (stp3 es s ev) F 0)] else []:=by
     unfold cOf
     by_cases h:0 ≤ stp3 es s ev <;> simp [h]
    rw [hco] at htk
    clear hco
    have hix1:=fun O => hix O (stp3 es s ev)
    generalize stp3 es s ev = t at *
    refine zaD Tk Tryz.func76 zaN rfl ?_
    refine zaz Tk (by exact n1) ?_
    refine zaJ Tk (gs) ?_
    refine zaz Tk (by exact n2) ?_
    refine zaJ Tk (ga) ?_
    refine za2 Tk (fun _ => hst2 _) rfl rfl rfl ?_
    refine zaS Tk Tryz.func76 (by kernel_rfl) ?_
    refine zai Tk Tryz.func76 rfl (fun d1 => ?_) (fun d1 => ?_)
    ·have d1:t ≥ 0:=of_decide_eq_true d1
     rw [if_pos d1] at htk
     refine zax ?_
     refine zae Tk Tryz.func76 ?_
     refine g_go Tk Tryz.func76 ?_
     refine zaD Tk Tryz.func76 zaN rfl ?_
     refine zaz Tk (by exact n2) ?_
     refine zaJ Tk (ga) ?_
     refine za2 Tk (fun _ => hix1 _) rfl rfl rfl ?_
     refine ztf Tk Tryz.func76 ([13,14,15]) (by kernel_rfl) (by kernel_rfl) ?_
     refine zag Tk Tryz.func76 (by exact ⟨by show ((cEd es F al i ++ (al.take j).filterMap (cOf es F i s)).length + 1) * 24 ≤ 140737488355328; rw [List.length_append]; omega,by show (cEd es F al i ++ (al.take j).filterMap (cOf es F i s)).length + 1 ≤ 9223372036854775807; rw [List.length_append]; omega⟩) ?_
     refine zac ?_
     refine ih2 (j + 1) _ _ h3 (by omega) ⟨rfl,rfl,rfl,rfl,rfl,hj1,trivial⟩ rfl ⟨rfl,rfl,rfl,rfl,?_,trivial⟩ rfl rfl
     rw [htk,← List.append_assoc]
     exact congrArg some (zc0 (cEd es F al i ++ (al.take j).filterMap (cOf es F i s)) ((i:Int),ev,idxI t F 0))
    ·have d1:¬ t ≥ 0:=of_decide_eq_false d1
     rw [if_neg d1,List.append_nil] at htk
     refine zac ?_
     refine ih2 (j + 1) _ _ h3 (by omega) ⟨rfl,rfl,rfl,rfl,rfl,hj1,trivial⟩ rfl ⟨rfl,rfl,rfl,rfl,by rw [htk]; rfl,trivial⟩ rfl rfl
   ·have h3:al.length ≤ j:=by simpa using g2
    refine zac ?_
    refine ih (i + 1) _ _ h2 (by omega) ⟨rfl,rfl,rfl,rfl,congrArg ii (zaB (n:=5000) (by omega) (by decide)),trivial⟩ rfl ⟨rfl,rfl,rfl,rfl,?_,trivial⟩ rfl rfl
    show some (zbD (cEd es F al i ++ (al.take j).filterMap (cOf es F i s))) = _
    rw [List.take_of_length_le h3,hE]
 ·have h2:F.length ≤ i:=by simpa using g1
  obtain rfl:i = F.length:=by omega
  refine zcJ (zam 33 rfl rfl) ?_
  refine zcJ (zam 68 rfl rfl) ?_
  refine zcJ (zd4 rfl) ?_
  refine zal Tk (r:=autD ⟨al,F.length,cMk F mk F.length,cEd es F al F.length⟩) rfl rfl rfl trivial rfl rfl ?_
  rfl
end Go.AI


namespace Go.AI
open Go.Proofs
set_option maxRecDepth 20000
abbrev u8D (x:Int):D:=.i (.v (.int .u8 x))
abbrev grC (gs gm:Int) (gt:Nat → Int):List D:=[u8D gs,u8D gm,u8D (gt 0),u8D (gt 1),u8D (gt 2),u8D (gt 3),u8D (gt 4),u8D (gt 5),u8D (gt 6),u8D (gt 7),u8D (gt 8),u8D (gt 9),u8D (gt 10),u8D (gt 11),u8D (gt 12),u8D (gt 13),u8D (gt 14),u8D (gt 15),u8D (gt 16),u8D (gt 17),u8D (gt 18),u8D (gt 19),u8D (gt 20),u8D (gt 21),u8D (gt 22),u8D (gt 23),u8D (gt 24)]
def bitP (b:Int) (i:Nat):Bool:=bits BinOp.and IntKind.u8 (b / 2 ^ Int.toNat (i:Int)) 1 == 1
def rawM (b:Int) (n:Nat):List Int:=((List.range n).filter fun i => bitP b i).map fun (i:Nat) => (i:Int)
theorem zf5 (b:Int) (n:Nat):rawM b (n + 1) = rawM b n ++ if bitP b n = true then [(n:Int)] else []:=by
 unfold rawM
 rw [List.range_succ,List.filter_append,List.map_append]
 congr 1
 by_cases h:bitP b n = true <;> simp [h]
theorem zeC (b:Int) (n:Nat):(rawM b n).length ≤ n:=by
 unfold rawM
 rw [List.length_map]
 exact Nat.le_trans (List.length_filter_le _ _) (by simp)
abbrev zbd (b:Int):List Int:=rawM b 5
theorem zsq (O:List Heap) (b:Int):zan Tryz.prog 30 [u8D b] O (ints (zbd b)) [] O:=by
 refine zat [7] Tk Tryz.func30 rfl Tryz.call30 Tryz.ntmps30 (Nat.le_of_ble_eq_true rfl) fun E => ?_
 refine zae Tk Tryz.func30 ?_
 refine zac ?_
 refine zao (zb4 3 17 3 1 rfl rfl rfl) ?_
 refine zah (fun i:Nat => [(0,u8D b),(3,.osl 0 17),(4,ii i)]) (fun i => [(17,zaw (rawM b i))]) (fun _ => O) 19
  (fun i => i ≤ 5) (fun i => 5 - i) 0 (Nat.zero_le _) ⟨rfl,rfl,rfl,trivial⟩ rfl ⟨rfl,trivial⟩ rfl rfl ?_
 intro i hi ih
 have hj1:ii (IntKind.i64.wrap ((i:Int) + 1)) = ii ((i + 1:Nat):Int):=congrArg ii (zaB (n:=1000001) (by omega) (by decide))
 have hs:=zf5 b i
 have hl:=zeC b i
 refine zae Tk Tryz.func30 ?_
 refine zai Tk Tryz.func30 rfl (fun g1 => ?_) (fun g1 => ?_)
 ·have g1:(i:Int) < 5:=of_decide_eq_true g1
  refine zag Tk Tryz.func30 (by exact ⟨by omega,by show (i:Int) ≤ (8:Nat); omega⟩) ?_
  refine zai Tk Tryz.func30 rfl (fun g2 => ?_) (fun g2 => ?_)
  ·have g2:bitP b i = true:=g2
   rw [if_pos g2] at hs
   refine zag Tk Tryz.func30 (by exact ⟨by show ((rawM b i).length + 1) * 8 ≤ 140737488355328; omega,by show (rawM b i).length + 1 ≤ 9223372036854775807; omega⟩) ?_
   refine zac ?_
   refine ih (i + 1) _ _ (by omega) (by omega) ⟨rfl,rfl,hj1,trivial⟩ rfl ⟨?_,trivial⟩ rfl rfl
   rw [hs]
   exact congrArg some (zaL (rawM b i) (i:Int))
  ·have g2:¬ bitP b i = true:=by intro h; exact absurd (g2.symm.trans h) (by decide)
   rw [if_neg g2,List.append_nil] at hs
   refine zac ?_
   exact ih (i + 1) _ _ (by omega) (by omega) ⟨rfl,rfl,hj1,trivial⟩ rfl ⟨by rw [hs]; rfl,trivial⟩ rfl rfl
 ·have g1:¬ (i:Int) < 5:=of_decide_eq_false g1
  obtain rfl:i = 5:=by omega
  refine zax ?_
  refine zao (zam 17 rfl rfl) ?_
  refine zae Tk Tryz.func30 ?_
  refine g_go Tk Tryz.func30 ?_
  refine zal Tk (r:=ints (zbd b)) rfl rfl rfl trivial rfl rfl ?_
  rfl
def tgtV (x:Int) (n:Nat):Int:=(IntKind.i64.wrap x).tmod (IntKind.i64.wrap ((n:Int) + 2))
def rowE (gt:Nat → Int) (n i:Nat) (s:List Int) (k:Nat):List Edg:=(List.range k).filterMap fun k => match s[k]? with
 | some ev => if tgtV (gt (5 * i + k)) n < n then some ((i:Int),ev,tgtV (gt (5 * i + k)) n) else none
 | none => none
theorem zo2 {gt:Nat → Int} {n i:Nat} {s:List Int} {k:Nat} {ev:Int} (h:s[k]? = some ev):rowE gt n i s (k + 1) = rowE gt n i s k ++ if tgtV (gt (5 * i + k)) n < n then [((i:Int),ev,tgtV (gt (5 * i + k)) n)] else []:=by
 unfold rowE
 rw [List.range_succ,List.filterMap_append]
 congr 1
 by_cases c:tgtV (gt (5 * i + k)) n < n <;> simp [h,c]
theorem zlJ (gt:Nat → Int) (n i:Nat) (s:List Int) (k:Nat):(rowE gt n i s k).length ≤ k:=Nat.le_trans (List.length_filterMap_le _ _) (by simp)
def rawE (gt:Nat → Int) (n:Nat) (s:List Int) (i:Nat):List Edg:=(List.range i).flatMap fun i => rowE gt n i s s.length
theorem zi4 (gt:Nat → Int) (n:Nat) (s:List Int) (i:Nat):rawE gt n s (i + 1) = rawE gt n s i ++ rowE gt n i s s.length:=by
 unfold rawE
 rw [List.range_succ,List.flatMap_append]
 simp
theorem zh2 (gt:Nat → Int) (n:Nat) (s:List Int):∀ i,(rawE gt n s i).length ≤ s.length * i
 | 0 => by simp [rawE]
 | i + 1 => by
  have:=zh2 gt n s i
  have:=zlJ gt n i s s.length
  rw [zi4,List.length_append,Nat.mul_add,Nat.mul_one]
  omega
def rawN (gs:Int):Nat:=1 + (gs % 5).toNat
def rawA (s:List Int) (gs gm:Int) (gt:Nat → Int):Aut:=⟨s,rawN gs,rawM gm (rawN gs),rawE gt (rawN gs) s (rawN gs)⟩
def mkA (s:List Int) (gs gm:Int) (gt:Nat → Int):Aut:=if gs ≥ 250 then ⟨s,0,[],[]⟩ else canR (rawA s gs gm gt) (zb9 (rawA s gs gm gt))
set_option maxHeartbeats 16000000 in
theorem zsZ (O:List Heap) (s:List Int) (gs gm:Int) (gt:Nat → Int) (hsl:s.length ≤ 5) (hg0:0 ≤ gs) (hok:autOk (rawA s gs gm gt)) (hF:(zb9 (rawA s gs gm gt)).length ≤ 4096) :
    zan Tryz.prog 29 [ints s,.agg (grC gs gm gt)] O (autD (mkA s gs gm gt)) [] O:=by
  have hem:=fun O => zmf O s (by omega)
  have hcan:=fun O => zkG O (rawA s gs gm gt) hok (by show (1:Int) ≤ ((rawN gs:Nat):Int); unfold rawN; omega) _ rfl hF
  have hn:IntKind.i64.wrap (1 + IntKind.i64.wrap (gs.tmod 5)) = ((rawN gs:Nat):Int):=by
    rw [Int.tmod_eq_emod_of_nonneg hg0]
    have h1:0 ≤ gs % 5 ∧ gs % 5 < 5:=⟨Int.emod_nonneg _ (by decide),Int.emod_lt_of_pos _ (by decide)⟩
    have w1:IntKind.i64.wrap (gs % 5) = gs % 5:=w64 (by omega) (by omega)
    rw [w1,w64 (by omega) (by omega)]
    unfold rawN
    omega
  have hn5:rawN gs ≤ 5:=by
    have h1:0 ≤ gs % 5 ∧ gs % 5 < 5:=⟨Int.emod_nonneg _ (by decide),Int.emod_lt_of_pos _ (by decide)⟩
    unfold rawN
    omega
  unfold mkA
  refine zat [10,13,14,16] Tk Tryz.func29 rfl Tryz.call29 Tryz.ntmps29 (Nat.le_of_ble_eq_true rfl) fun E => ?_
  refine zae Tk Tryz.func29 ?_
  refine zai Tk Tryz.func29 rfl (fun c1 => ?_) (fun c1 => ?_)
  · rw [if_pos (of_decide_eq_true c1)]
    refine zaf Tk Tryz.func29 (hem _) rfl rfl rfl rfl rfl ?_
    refine zb2 Tk (r:=.agg [ints s,ii 0,.i (.v (.slice none 0 0)),.i (.v (.slice none 0 0))]) rfl rfl rfl trivial rfl rfl ?_
    repeat' (first | refine zcR ?_ | refine zcS ?_ | refine zfi ?_ | refine CoDL.cons ?_ ?_ | exact CoDL.nil | exact zbZ | refine zdF ?_ | refine CoLL.cons ?_ ?_ | exact CoLL.nil | refine CoL.cons ?_ ?_ | exact CoL.nil | exact CoI.refl _ | exact CoL.refl _ | exact CoLL.refl _ | exact CoDL.refl _ | exact CoD.refl _)
  rw [if_neg (of_decide_eq_false c1)]
  clear c1
  generalize canR (rawA s gs gm gt) (zb9 (rawA s gs gm gt)) = R at *
  have hcan:∀ O,zan Tryz.prog 76 [.agg [ints s,ii (rawN gs),ints (rawM gm (rawN gs)),edgs (rawE gt (rawN gs) s (rawN gs))]] O (autD R) [] O:=hcan
  generalize rawN gs = n at *
  refine zaf Tk Tryz.func29 (hem _) rfl rfl rfl rfl rfl ?_
  refine zag Tk Tryz.func29 (by decide) ?_
  refine zac ?_
  refine zao (zaO 5 38 3 1 (pre:=[ints s,ii _]) (post:=[.i (.v (.slice none 0 0))]) rfl rfl rfl) ?_
  refine zao (zaO 5 75 117 3 (pre:=[ints s,ii _,.osl 0 38]) (post:=[]) rfl rfl rfl) ?_
  refine zah (fun i:Nat => [(0,ints s),(3,.own 0 3 0 0),(4,.own 0 4 0 0),(5,.own 0 5 0 0),(6,ii i)]) (fun i => [(3,.box (grC gs gm gt)),(4,zBox),(5,.box [ints s,ii n,.osl 0 38,.osl 0 75]),(38,zaw (rawM gm i)),(75,zbD (rawE gt n s i))]) (fun _ => O) 79
    (fun i => i ≤ n) (fun i => n - i) 0 (Nat.zero_le _) ⟨rfl,rfl,rfl,rfl,rfl,trivial⟩ rfl ⟨rfl,rfl,congrArg (fun z => some (Ob.box [ints s,ii z,.osl 0 38,.osl 0 75])) hn,rfl,rfl,trivial⟩ rfl rfl ?_
  intro i hi ih
  have hi1:ii (IntKind.i64.wrap ((i:Int) + 1)) = ii ((i + 1:Nat):Int):=congrArg ii (zaB (n:=1000001) (by omega) (by decide))
  refine zae Tk Tryz.func29 ?_
  refine zai Tk Tryz.func29 rfl (fun g1 => ?_) (fun g1 => ?_)
  · have h2:i < n:=by simpa using g1
    clear g1
    have hm3:=zf5 gm i
    have hml:=zeC gm i
    refine zag Tk Tryz.func29 (by exact ⟨by omega,by show (i:Int) ≤ (8:Nat); omega⟩) ?_
    apply zcj (P:=True) (s6:={ σ:=[(0,ints s),(3,.own 0 3 0 0),(4,.own 0 4 0 0),(5,.own 0 5 0 0),(6,ii i)],S:=[(3,.box (grC gs gm gt)),(4,zBox),(5,.box [ints s,ii n,.osl 0 38,.osl 0 75]),(38,zaw (rawM gm (i + 1))),(75,zbD (rawE gt n s i))] :: O,n:=79 })
    · intro J
      refine zai Tk Tryz.func29 rfl (fun d1 => ?_) (fun d1 => ?_)
      · have d1:bitP gm i = true:=d1
        rw [if_pos d1] at hm3
        refine zag Tk Tryz.func29 (by exact ⟨by show ((rawM gm i).length + 1) * 8 ≤ 140737488355328; omega,by show (rawM gm i).length + 1 ≤ 9223372036854775807; omega⟩) ?_
        refine zax ?_
        refine zaC (J trivial) ⟨rfl,rfl,rfl,rfl,rfl,trivial⟩ rfl ⟨rfl,rfl,rfl,?_,rfl,trivial⟩ rfl rfl
        rw [hm3]
        exact congrArg some (zaL (rawM gm i) (i:Int))
      · have d1:¬ bitP gm i = true:=by intro h; exact absurd (d1.symm.trans h) (by decide)
        rw [if_neg d1,List.append_nil] at hm3
        refine zax ?_
        refine zaC (J trivial) ⟨rfl,rfl,rfl,rfl,rfl,trivial⟩ rfl ⟨rfl,rfl,rfl,by rw [hm3]; rfl,rfl,trivial⟩ rfl rfl
    intro _
    clear hm3 hml
    have hE:=zi4 gt n s i
    have hEl:=zh2 gt n s i
    have hEl2:s.length * i ≤ 5 * 5:=Nat.mul_le_mul hsl (by omega)
    refine zae Tk Tryz.func29 ?_
    refine g_go Tk Tryz.func29 ?_
    refine zac ?_
    refine zah (fun k:Nat => [(0,ints s),(3,.own 0 3 0 0),(4,.own 0 4 0 0),(5,.own 0 5 0 0),(6,ii i),(7,ii k)]) (fun k => [(3,.box (grC gs gm gt)),(4,zBox),(5,.box [ints s,ii n,.osl 0 38,.osl 0 75]),(38,zaw (rawM gm (i + 1))),(75,zbD (rawE gt n s i ++ rowE gt n i s k))]) (fun _ => O) 79
      (fun k => k ≤ s.length) (fun k => s.length - k) 0 (Nat.zero_le _) ⟨rfl,rfl,rfl,rfl,rfl,rfl,trivial⟩ rfl ⟨rfl,rfl,rfl,rfl,by show some (zbD (rawE gt n s i)) = some (zbD (rawE gt n s i ++ [])); rw [List.append_nil],trivial⟩ rfl rfl ?_
    intro k hk ih2
    refine zae Tk Tryz.func29 ?_
    refine zaW Tk Tryz.func29 rfl (fun g2 => ?_) (fun g2 => ?_)
    · have h3:k < s.length:=by simpa using g2
      clear g2
      refine zai Tk Tryz.func29 rfl (fun g3 => ?_) (fun g3 => ?_)
      rotate_left
      · have g3:¬ (k:Int) < 5:=of_decide_eq_false g3
        omega
      clear g3
      have ga:(s.map fun x => [vi x])[(k:Int).toNat]? = some [vi s[k]]:=zaj (f:=fun x => [vi x]) h3
      have htk:=zo2 (gt:=gt) (n:=n) (i:=i) (List.getElem?_eq_getElem h3)
      have hpl:=zlJ gt n i s k
      have n2:0 ≤ (k:Int) ∧ (k:Int) < (s.length:Int):=by omega
      have hj1:ii (IntKind.i64.wrap ((k:Int) + 1)) = ii ((k + 1:Nat):Int):=congrArg ii (zaB (n:=1000001) (by omega) (by decide))
      generalize s[k] = ev at *
      have hnz:IntKind.i64.wrap ((n:Int) + 2) ≠ 0:=by rw [w64 (by omega) (by omega)]; omega
      apply zcj (P:=True) (s6:={ σ:=[(0,ints s),(3,.own 0 3 0 0),(4,.own 0 4 0 0),(5,.own 0 5 0 0),(6,ii i),(7,ii k),(8,ii (tgtV (gt (5 * i + k)) n))],S:=[(3,.box (grC gs gm gt)),(4,zBox),(5,.box [ints s,ii n,.osl 0 38,.osl 0 75]),(38,zaw (rawM gm (i + 1))),(75,zbD (rawE gt n s i ++ rowE gt n i s k))] :: O,n:=79 })
      · intro J
        have hi5:i = 0 ∨ i = 1 ∨ i = 2 ∨ i = 3 ∨ i = 4:=by omega
        have hk5:k = 0 ∨ k = 1 ∨ k = 2 ∨ k = 3 ∨ k = 4:=by omega
        rcases hi5 with rfl | rfl | rfl | rfl | rfl <;> rcases hk5 with rfl | rfl | rfl | rfl | rfl <;>
          (refine g_go Tk Tryz.func29 ?_
           refine zaD Tk Tryz.func29 zaN rfl ?_
           refine zaz Tk (by decide) ?_
           refine zaz Tk (by decide) ?_
           refine zaz Tk hnz ?_
           refine zaS Tk Tryz.func29 (by kernel_rfl) ?_
           refine zax ?_
           exact zaC (J trivial) ⟨rfl,rfl,rfl,rfl,rfl,rfl,rfl,trivial⟩ rfl ⟨rfl,rfl,rfl,rfl,rfl,trivial⟩ rfl rfl)
      intro _
      refine zae Tk Tryz.func29 ?_
      refine g_go Tk Tryz.func29 ?_
      refine zai Tk Tryz.func29 rfl (fun d1 => ?_) (fun d1 => ?_)
      · have d1:tgtV (gt (5 * i + k)) n < n:=of_decide_eq_true d1
        rw [if_pos d1] at htk
        refine zaD Tk Tryz.func29 zaN rfl ?_
        refine zaz Tk (by exact n2) ?_
        refine zaJ Tk (ga) ?_
        refine ztf Tk Tryz.func29 ([10,11,12]) (by kernel_rfl) (by kernel_rfl) ?_
        refine zag Tk Tryz.func29 (by exact ⟨by show ((rawE gt n s i ++ rowE gt n i s k).length + 1) * 24 ≤ 140737488355328; rw [List.length_append]; omega,by show (rawE gt n s i ++ rowE gt n i s k).length + 1 ≤ 9223372036854775807; rw [List.length_append]; omega⟩) ?_
        refine zac ?_
        refine ih2 (k + 1) _ _ h3 (by omega) ⟨rfl,rfl,rfl,rfl,rfl,hj1,trivial⟩ rfl ⟨rfl,rfl,rfl,rfl,?_,trivial⟩ rfl rfl
        rw [htk,← List.append_assoc]
        exact congrArg some (zc0 (rawE gt n s i ++ rowE gt n i s k) ((i:Int),ev,tgtV (gt (5 * i + k)) n))
      · have d1:¬ tgtV (gt (5 * i + k)) n < n:=of_decide_eq_false d1
        rw [if_neg d1,List.append_nil] at htk
        refine zac ?_
        exact ih2 (k + 1) _ _ h3 (by omega) ⟨rfl,rfl,rfl,rfl,rfl,hj1,trivial⟩ rfl ⟨rfl,rfl,rfl,rfl,by rw [htk]; rfl,trivial⟩ rfl rfl
    · have h3:s.length ≤ k:=by simpa using g2
      have hk2:k = s.length:=by omega
      refine gcF Tk Tryz.func29 rfl ?_
      refine zac ?_
      refine ih (i + 1) _ _ h2 (by omega) ⟨rfl,rfl,rfl,rfl,hi1,trivial⟩ rfl ⟨rfl,rfl,rfl,rfl,?_,trivial⟩ rfl rfl
      show some (zbD (rawE gt n s i ++ rowE gt n i s k)) = _
      rw [hk2,hE]
  · have h2:n ≤ i:=by simpa using g1
    obtain rfl:i = n:=by omega
    refine zax ?_
    refine zao (zam 38 rfl rfl) ?_
    refine zao (zam 75 rfl rfl) ?_
    refine zao (zd4 rfl) ?_
    refine zae Tk Tryz.func29 ?_
    refine g_go Tk Tryz.func29 ?_
    refine zaf Tk Tryz.func29 (hcan _) rfl rfl rfl rfl rfl ?_
    refine zal Tk (r:=autD R) rfl rfl rfl trivial rfl rfl ?_
    rfl
end Go.AI


namespace Go.AI
theorem zgQ {a:Aut} (h1:zak 32 a.alpha none = 0) (h2:0 ≤ a.states ∧ a.states ≤ 4096) (h3:zak a.states a.marked none = 0) (h4:zcF a.alpha a.states none a.edges = 0):chkA a = 0:=by
 unfold chkA
 rw [if_neg (by rw [h1]; simp),if_neg (by omega),if_neg (by omega)]
 first
  | (rw [if_neg (by rw [h3]; simp)]; exact h4)
  | (simp only [h3,h4]; simp)
theorem zhV {f:Nat → List Edg} (h1:∀ i,∀ x ∈ f i,x.1 = (i:Int)) (h2:∀ i,(f i).Pairwise fun x y => x.2.1 < y.2.1):∀ n,((List.range n).flatMap f).Pairwise ltE
 | 0 => by simp
 | n + 1 => by
  rw [List.range_succ,List.flatMap_append,List.pairwise_append]
  refine ⟨zhV h1 h2 n,?_,?_⟩
  ·rw [List.flatMap_cons,List.flatMap_nil,List.append_nil]
   have:(f n).Pairwise fun x y => (x ∈ f n ∧ y ∈ f n) ∧ x.2.1 < y.2.1:=List.Pairwise.imp_of_mem (fun {a b} ha hb h => ⟨⟨ha,hb⟩,h⟩) (h2 n)
   exact this.imp fun {x y} h => .inr ⟨by rw [h1 n x h.1.1,h1 n y h.1.2],h.2⟩
  ·intro x hx y hy
   obtain ⟨i,hi,hx⟩:=List.mem_flatMap.1 hx
   rw [List.flatMap_cons,List.flatMap_nil,List.append_nil] at hy
   have:=List.mem_range.1 hi
   exact .inl (by rw [h1 i x hx,h1 n y hy]; omega)
theorem zpd (b:Int) (n:Nat):(rawM b n).Pairwise (· < ·) ∧ ∀ x ∈ rawM b n,0 ≤ x ∧ x < (n:Int):=by
 unfold rawM
 refine ⟨?_,fun x hx => ?_⟩
 ·rw [List.pairwise_map]
  have:(List.range n).Pairwise (· < ·):=List.pairwise_lt_range
  exact (this.filter _).imp fun {a b} h => by omega
 ·obtain ⟨i,hi,rfl⟩:=List.mem_map.1 hx
  have:=List.mem_range.1 (List.mem_filter.1 hi).1
  omega
theorem ztC {x:Int} {n:Nat} (hx:0 ≤ x ∧ x ≤ 255) (hn:n ≤ 5):0 ≤ tgtV x n:=by
 unfold tgtV
 rw [w64 (by omega) (by omega),w64 (by omega) (by omega)]
 exact Int.tmod_nonneg _ hx.1
theorem zsP (gs:Int):1 ≤ rawN gs ∧ rawN gs ≤ 5:=by
 have h1:0 ≤ gs % 5 ∧ gs % 5 < 5:=⟨Int.emod_nonneg _ (by decide),Int.emod_lt_of_pos _ (by decide)⟩
 unfold rawN
 omega
theorem zl1 {gt:Nat → Int} {n i:Nat} {s:List Int} {k:Nat} {x:Edg} (h:x ∈ rowE gt n i s k):∃ j,j < k ∧ ∃ ev,s[j]? = some ev ∧ tgtV (gt (5 * i + j)) n < n ∧ x = ((i:Int),ev,tgtV (gt (5 * i + j)) n):=by
 unfold rowE at h
 obtain ⟨j,hj,hx⟩:=List.mem_filterMap.1 h
 refine ⟨j,List.mem_range.1 hj,?_⟩
 cases hs:s[j]? with
 | none => rw [hs] at hx; cases hx
 | some ev =>
  rw [hs] at hx
  by_cases c:tgtV (gt (5 * i + j)) n < n
  ·simp only [c,if_true,Option.some.injEq] at hx
   exact ⟨ev,rfl,c,hx.symm⟩
  ·simp only [c,if_false] at hx
   cases hx
theorem zuY {s:List Int} {gs gm:Int} {gt:Nat → Int} (hs:s.Pairwise (· < ·)) (hr:∀ x ∈ s,0 ≤ x ∧ x < 32) (hsl:s.length ≤ 5) (hg:∀ j,0 ≤ gt j ∧ gt j ≤ 255):autOk (rawA s gs gm gt):=by
 obtain ⟨n1,n5⟩:=zsP gs
 have hm:=zpd gm (rawN gs)
 have hml:=zeC gm (rawN gs)
 have hel:=zh2 gt (rawN gs) s (rawN gs)
 have hel2:s.length * rawN gs ≤ 5 * 5:=Nat.mul_le_mul hsl n5
 refine ⟨by show (rawE gt (rawN gs) s (rawN gs)).length ≤ 1000000; omega,by show s.length ≤ 1000000; omega,by show (rawM gm (rawN gs)).length ≤ 1000000; omega,zgQ ?_ ?_ ?_ ?_⟩
 ·exact zbi hs hr (fun y e => by cases e)
 ·show (0:Int) ≤ ((rawN gs:Nat):Int) ∧ ((rawN gs:Nat):Int) ≤ 4096
  omega
 ·exact zbi hm.1 hm.2 (fun y e => by cases e)
 ·refine zeS ?_ ?_ (fun y e => by cases e)
  ·refine zhV (fun i x hx => ?_) (fun i => ?_) _
   ·obtain ⟨j,_,ev,_,_,rfl⟩:=zl1 hx
    rfl
   ·unfold rowE
    have hrg:(List.range s.length).Pairwise (· < ·):=List.pairwise_lt_range
    refine List.Pairwise.filterMap _ (fun a b hab x hx y hy => ?_) hrg
    have hget:∀ {a:Nat} {x:Edg},(match s[a]? with
      | some ev => if tgtV (gt (5 * i + a)) (rawN gs) < (rawN gs:Int) then some ((i:Int),ev,tgtV (gt (5 * i + a)) (rawN gs)) else none
      | none => none) = some x → s[a]? = some x.2.1:=by
     intro a x hx
     cases hs:s[a]? with
     | none => rw [hs] at hx; cases hx
     | some ev =>
      rw [hs] at hx
      by_cases c:tgtV (gt (5 * i + a)) (rawN gs) < (rawN gs:Int)
      ·simp only [c,if_true,Option.some.injEq] at hx
       rw [← hx]
      ·simp only [c,if_false] at hx
       cases hx
    have hx:=hget hx
    have hy:=hget hy
    obtain ⟨ha,ha2⟩:=List.getElem?_eq_some_iff.1 hx
    obtain ⟨hb,hb2⟩:=List.getElem?_eq_some_iff.1 hy
    rw [← ha2,← hb2]
    exact List.pairwise_iff_getElem.1 hs a b ha hb hab
  ·intro x hx
   obtain ⟨i,hi,hx⟩:=List.mem_flatMap.1 hx
   have hi:=List.mem_range.1 hi
   obtain ⟨j,_,ev,he,ht,rfl⟩:=zl1 hx
   have:=ztC (hg (5 * i + j)) n5
   refine ⟨⟨by simp only; omega,?_⟩,⟨this,ht⟩,List.mem_of_getElem? he⟩
   show (i:Int) < ((rawN gs:Nat):Int)
   omega
theorem zkp {es:List Edg} {s n:Int} (hes:∀ x ∈ es,0 ≤ x.2.2 ∧ x.2.2 < n):∀ {al out:List Int},fOk n out → fOk n (fvis es s al out)
 | [],out,h => h
 | ev :: r,out,h => by
  simp only [fvis]
  split
  ·rename_i c
   refine zkp hes (zit h ?_ c.2)
   rcases zoH (n:=n) (es:=es) (s:=s) (ev:=ev) hes with h1 | h1
   ·rw [h1] at c; exact absurd c.1 (by decide)
   ·exact h1
  ·exact zkp hes h
theorem fvis_pre {es:List Edg} {s:Int}:∀ {al out:List Int},out <+: fvis es s al out
 | [],out => List.prefix_refl _
 | ev :: r,out => by
  simp only [fvis]
  split
  ·exact (List.prefix_append _ _).trans fvis_pre
  ·exact fvis_pre
theorem zma {es:List Edg} {s:Int}:∀ {al out:List Int} {ev:Int},ev ∈ al → 0 ≤ stp3 es s ev → stp3 es s ev ∈ fvis es s al out
 | e :: r,out,ev,h,c => by
  simp only [fvis]
  rcases List.mem_cons.1 h with rfl | h
  ·by_cases c2:stp3 es s ev ∈ out
   ·rw [if_neg (fun h => h.2 c2)]
    exact fvis_pre.subset c2
   ·rw [if_pos ⟨c,c2⟩]
    exact fvis_pre.subset (by simp)
  ·exact zma h c
theorem zp0 {es:List Edg} {al:List Int} {n:Nat} (hn:1 ≤ n) (hes:∀ x ∈ es,0 ≤ x.2.2 ∧ x.2.2 < (n:Int)) {N:Nat} (hN:n < N):∀ (f i:Nat) (out:List Int),f + i = N → i ≤ out.length → fOk n out → (∀ s ∈ out.take i,∀ ev ∈ al,0 ≤ stp3 es s ev → stp3 es s ev ∈ out) →
  fOk n (fndL es al f i out) ∧ (∀ s ∈ fndL es al f i out,∀ ev ∈ al,0 ≤ stp3 es s ev → stp3 es s ev ∈ fndL es al f i out) ∧ out <+: fndL es al f i out
 | 0,i,out,hf,hi,h,_ => by
  rcases zgJ h with h1 | h1
  ·omega
  ·rw [h1] at hi
   simp at hi
   omega
 | f + 1,i,out,hf,hi,h,hc => by
  simp only [fndL]
  cases hg:out[i]? with
  | none =>
   have:out.length ≤ i:=by
    rcases Nat.lt_or_ge i out.length with h1 | h1
    ·rw [List.getElem?_eq_getElem h1] at hg; cases hg
    ·exact h1
   rw [List.take_of_length_le this] at hc
   exact ⟨h,hc,List.prefix_refl _⟩
  | some s =>
   have hlt:i < out.length:=(List.getElem?_eq_some_iff.1 hg).1
   have hp:=fvis_pre (es:=es) (s:=s) (al:=al) (out:=out)
   obtain ⟨r,hr⟩:=hp
   have htk:(fvis es s al out).take (i + 1) = out.take i ++ [s]:=by
    rw [← hr,List.take_append_of_le_length (by omega),List.take_add_one,hg]; rfl
   obtain ⟨h1,h2,h3⟩:=zp0 hn hes hN f (i + 1) (fvis es s al out) (by omega) (by rw [← hr,List.length_append]; omega) (zkp hes h) (fun t ht ev he c => by
    rw [htk,List.mem_append,List.mem_singleton] at ht
    rcases ht with ht | rfl
    ·exact fvis_pre.subset (hc t ht ev he c)
    ·exact zma he c)
   exact ⟨h1,h2,fvis_pre.trans h3⟩
theorem zsj {a:Aut} {n:Nat} (hst:a.states = n) (hn:1 ≤ n ∧ n ≤ 4096) (hes:∀ x ∈ a.edges,0 ≤ x.2.2 ∧ x.2.2 < (n:Int)) :
  fOk n (zb9 a) ∧ (∀ s ∈ zb9 a,∀ ev ∈ a.alpha,0 ≤ stp3 a.edges s ev → stp3 a.edges s ev ∈ zb9 a) ∧ [(0:Int)] <+: zb9 a:=
 zp0 hn.1 hes (N:=4097) (by omega) 4097 0 [0] rfl (by simp) ⟨by simp,fun x hx => by rw [List.mem_singleton] at hx; subst hx; constructor <;> omega⟩ (by simp)
theorem zpL {t:Int}:∀ {l:List Int} {i:Nat},t ∈ l → (i:Int) ≤ idxI t l i ∧ idxI t l i < (i + l.length:Nat)
 | [],_,h => by simp at h
 | y :: r,i,h => by
  simp only [idxI]
  split
  ·constructor
   ·omega
   ·simp only [List.length_cons]; omega
  ·rename_i hne
   have hr:t ∈ r:=by
    rcases List.mem_cons.1 h with rfl | h
    ·simp at hne
    ·exact h
   have:=zpL (i:=i + 1) hr
   simp only [List.length_cons]
   constructor <;> omega
theorem zvB {a:Aut} {n:Nat} (ha:autOk a) (hst:a.states = n) (hn:1 ≤ n ∧ n ≤ 4096):gAut (canR a (zb9 a)) (zb9 a).length ∧ (zb9 a).length ≤ n:=by
 obtain ⟨c1,c2,c3,c4⟩:=zaK ha.chk
 obtain ⟨_,eb,_⟩:=zbh c4
 have hes:∀ x ∈ a.edges,0 ≤ x.2.2 ∧ x.2.2 < (n:Int):=fun x hx => by have:=(eb x hx).2.1; rw [hst] at this; exact this
 obtain ⟨f1,f2,f3⟩:=zsj hst hn hes
 have hal:=zaX (by decide) c1
 have hal:a.alpha.length ≤ 32:=by omega
 have hpw:=(zar c1).1
 have hF:(zb9 a).length ≤ n:=by
  rcases zgJ f1 with h | h
  ·omega
  ·rw [h]; simp
 generalize zb9 a = F at *
 have hce:=zqz (es:=a.edges) (F:=F) (al:=a.alpha) (i:=F.length) hal
 have hcm:=zqy (F:=F) (marked:=a.marked) (i:=F.length)
 refine ⟨⟨rfl,⟨?_,?_,?_⟩,zgQ c1 ?_ ?_ ?_⟩,hF⟩
 ·show (cEd a.edges F a.alpha F.length).length ≤ 1000000
  omega
 ·exact ha.al
 ·show (cMk F a.marked F.length).length ≤ 1000000
  omega
 ·show (0:Int) ≤ (F.length:Int) ∧ (F.length:Int) ≤ 4096
  omega
 ·show zak (F.length:Int) (cMk F a.marked F.length) none = 0
  unfold cMk
  refine zbi ?_ (fun x hx => ?_) (fun y e => by cases e)
  ·rw [List.pairwise_map]
   have:(List.range F.length).Pairwise (· < ·):=List.pairwise_lt_range
   exact (this.filter _).imp fun {a b} h => by omega
  ·obtain ⟨i,hi,rfl⟩:=List.mem_map.1 hx
   have:=List.mem_range.1 (List.mem_filter.1 hi).1
   omega
 ·show zcF a.alpha (F.length:Int) none (cEd a.edges F a.alpha F.length) = 0
  have hmem:∀ {k:Nat} {x:Edg},x ∈ (match F[k]? with
    | none => []
    | some s => a.alpha.filterMap (cOf a.edges F k s)) → ∃ s,F[k]? = some s ∧ x.1 = (k:Int) ∧ x.2.1 ∈ a.alpha ∧ 0 ≤ stp3 a.edges s x.2.1 ∧ x.2.2 = idxI (stp3 a.edges s x.2.1) F 0:=by
   intro k x hx
   cases hs:F[k]? with
   | none => rw [hs] at hx; cases hx
   | some s =>
    rw [hs] at hx
    obtain ⟨ev,he,hx⟩:=List.mem_filterMap.1 hx
    unfold cOf at hx
    by_cases c:0 ≤ stp3 a.edges s ev
    ·rw [if_pos c] at hx
     obtain rfl:=Option.some.inj hx
     exact ⟨s,rfl,rfl,he,c,rfl⟩
    ·rw [if_neg c] at hx; cases hx
  unfold cEd
  refine zeS (zhV (fun i x hx => ?_) (fun i => ?_) _) (fun x hx => ?_) (fun y e => by cases e)
  ·obtain ⟨_,_,h,_⟩:=hmem hx
   exact h
  ·cases hs:F[i]? with
   | none => exact .nil
   | some s =>
    refine List.Pairwise.filterMap _ (fun p q hpq x hx y hy => ?_) hpw
    unfold cOf at hx hy
    by_cases cp:0 ≤ stp3 a.edges s p
    ·by_cases cq:0 ≤ stp3 a.edges s q
     ·rw [if_pos cp] at hx
      rw [if_pos cq] at hy
      obtain rfl:=Option.some.inj hx
      obtain rfl:=Option.some.inj hy
      exact hpq
     ·rw [if_neg cq] at hy; cases hy
    ·rw [if_neg cp] at hx; cases hx
  ·obtain ⟨i,hi,hx⟩:=List.mem_flatMap.1 hx
   have hi:=List.mem_range.1 hi
   obtain ⟨s,hs,h1,h2,h3,h4⟩:=hmem hx
   have h5:=f2 s (List.mem_of_getElem? hs) _ h2 h3
   have h6:=zpL (i:=0) h5
   refine ⟨by rw [h1]; omega,?_,h2⟩
   rw [h4]
   constructor
   ·have:=h6.1; omega
   ·have:=h6.2; omega
theorem zpw {s:List Int} {gs gm:Int} {gt:Nat → Int} (hs:s.Pairwise (· < ·)) (hr:∀ x ∈ s,0 ≤ x ∧ x < 32) (hsl:s.length ≤ 5) (hg:∀ j,0 ≤ gt j ∧ gt j ≤ 255) :
  (autOk (rawA s gs gm gt) ∧ (zb9 (rawA s gs gm gt)).length ≤ 4096) ∧ (∃ n,n ≤ 5 ∧ gAut (mkA s gs gm gt) n) ∧ (mkA s gs gm gt).alpha = s:=by
 have hok:=zuY (gs:=gs) (gm:=gm) hs hr hsl hg
 obtain ⟨n1,n5⟩:=zsP gs
 obtain ⟨h1,h2⟩:=zvB hok (n:=rawN gs) rfl ⟨n1,by omega⟩
 refine ⟨⟨hok,by omega⟩,?_,?_⟩
 ·unfold mkA
  split
  ·refine ⟨0,by omega,rfl,⟨by simp,by simp only; omega,by simp⟩,zgQ (zbi hs hr (fun y e => by cases e)) ⟨by simp,by simp⟩ rfl rfl⟩
  ·exact ⟨_,by omega,h1⟩
 ·unfold mkA
  split <;> rfl
theorem zjt (b:Int):(zbd b).Pairwise (· < ·) ∧ (∀ x ∈ zbd b,0 ≤ x ∧ x < 32) ∧ (zbd b).length ≤ 5:=by
 obtain ⟨h1,h2⟩:=zpd b 5
 exact ⟨h1,fun x hx => by have:=h2 x hx; omega,zeC b 5⟩
end Go.AI


namespace Go.AI
section
variable {S:Type} [DecidableEq S]
def runG (nx:S → Int → S) (ok:S → Bool) (evs:S → List Int):S → List Int → Option S
 | x,[] => some x
 | x,ev :: w => if ev ∈ evs x ∧ ok (nx x ev) = true then runG nx ok evs (nx x ev) w else none
theorem ziW {nx:S → Int → S} {ok:S → Bool} {evs:S → List Int} {ev:Int}:∀ (w:List Int) (x0 x:S),runG nx ok evs x0 w = some x → ev ∈ evs x → ok (nx x ev) = true → runG nx ok evs x0 (w ++ [ev]) = some (nx x ev)
 | [],x0,x,h,h1,h2 => by
  simp only [runG,Option.some.injEq] at h
  subst h
  simp only [List.nil_append,runG]
  rw [if_pos ⟨h1,h2⟩]
 | e :: w,x0,x,h,h1,h2 => by
  simp only [runG] at h
  by_cases c:e ∈ evs x0 ∧ ok (nx x0 e) = true
  ·rw [if_pos c] at h
   simp only [List.cons_append,runG]
   rw [if_pos c]
   exact ziW w _ x h h1 h2
  ·rw [if_neg c] at h; cases h
theorem zml {nx:S → Int → S} {ok:S → Bool} {evs:S → List Int} {x0:S} {x:S × List Int} (hx:runG nx ok evs x0 x.2 = some x.1):∀ {es:List Int} {l:List (S × List Int)},(∀ ev ∈ es,ev ∈ evs x.1) → (∀ z ∈ l,runG nx ok evs x0 z.2 = some z.1) → ∀ z ∈ bvis nx ok x es l,runG nx ok evs x0 z.2 = some z.1
 | [],l,_,h => h
 | ev :: r,l,he,h => by
  simp only [bvis]
  refine zml hx (fun e h => he e (by simp [h])) ?_
  split
  ·rename_i c
   intro z hz
   rcases List.mem_append.1 hz with hz | hz
   ·exact h z hz
   ·rw [List.mem_singleton] at hz
    subst hz
    exact ziW _ _ _ hx (he ev (by simp)) c.1
  ·exact h
theorem zjF {nx:S → Int → S} {ok:S → Bool} {evs:S → List Int} {x0:S}:∀ (f i:Nat) (l:List (S × List Int)),(∀ z ∈ l,runG nx ok evs x0 z.2 = some z.1) → ∀ z ∈ zfn nx ok evs f i l,runG nx ok evs x0 z.2 = some z.1
 | 0,_,l,h => h
 | f + 1,i,l,h => by
  simp only [zfn]
  cases hi:l[i]? with
  | none => exact h
  | some x => exact zjF f (i + 1) _ (zml (h x (List.mem_of_getElem? hi)) (fun _ h => h) h)
end
theorem zuB (es:List Edg) (p:Int → Bool) (n:Nat):clo es p n [] = []:=by
 have:zhj es p n [] = []:=zlK (by simp) _
 unfold clo
 rw [this]
 refine List.eq_nil_iff_forall_not_mem.2 fun x hx => ?_
 have:=(zbP.1 hx).2
 cases this
def hX (y:PS):Option PS:=if okX y = true then some y else none
end Go.AI


namespace Go.AI
end Go.AI


namespace Go.AI
end Go.AI


namespace Go.AI
end Go.AI


namespace Go.AI
section
variable {S:Type} [DecidableEq S]
theorem zfv {V:List S} {nx:S → Int → S} {ok:S → Bool} {evs:S → List Int} (hv:∀ x ∈ V,∀ ev ∈ evs x,ok (nx x ev) = true → nx x ev ∈ V) {N:Nat} (hN:V.length < N):∀ (f i:Nat) (l:List (S × List Int)),f + i = N → i ≤ l.length → bOk V l →
  (∀ z ∈ l.take i,∀ ev ∈ evs z.1,ok (nx z.1 ev) = true → ∃ w ∈ l,w.1 = nx z.1 ev) → ∀ z ∈ zfn nx ok evs f i l,∀ ev ∈ evs z.1,ok (nx z.1 ev) = true → ∃ w ∈ zfn nx ok evs f i l,w.1 = nx z.1 ev
 | 0,i,l,hf,hi,h,_ => by
  have:=zeu h
  omega
 | f + 1,i,l,hf,hi,h,hc => by
  simp only [zfn]
  cases hg:l[i]? with
  | none =>
   have:l.length ≤ i:=by
    rcases Nat.lt_or_ge i l.length with h1 | h1
    ·rw [List.getElem?_eq_getElem h1] at hg; cases hg
    ·exact h1
   rw [List.take_of_length_le this] at hc
   exact hc
  | some x =>
   have hlt:i < l.length:=(List.getElem?_eq_some_iff.1 hg).1
   have hx:x.1 ∈ V:=h.el x (List.mem_of_getElem? hg)
   have hp:=zcp nx ok x (evs x.1) l
   obtain ⟨r,hr⟩:=hp
   have htk:(bvis nx ok x (evs x.1) l).take (i + 1) = l.take i ++ [x]:=by
    rw [← hr,List.take_append_of_le_length (by omega),List.take_add_one,hg]; rfl
   refine zfv hv hN f (i + 1) _ (by omega) (by rw [← hr,List.length_append]; omega) (zgS (hv x.1 hx) h hg) fun z hz ev he c => ?_
   rw [htk,List.mem_append,List.mem_singleton] at hz
   rcases hz with hz | rfl
   ·obtain ⟨w,hw,e⟩:=hc z hz ev he c
    exact ⟨w,(zcp nx ok x (evs x.1) l).subset hw,e⟩
   ·exact zmm he c
end
def mrk (a:Aut) (n:Nat) (i:Int):Bool:=zcD a (clo a.edges (lowP [] [] false) n [i])
end Go.AI


namespace Go.AI
end Go.AI


namespace Go.AI
end Go.AI


namespace Go.AI
def swp (s x:Int):Int:=if x = 0 then s else if x = s then 0 else x
theorem zc5:∀ {es:List Edg} {s ev:Int},0 ≤ stp3 es s ev → (s,ev,stp3 es s ev) ∈ es
 | [],s,ev,h => by
  unfold stp3 at h
  exact absurd h (by decide)
 | x :: r,s,ev,h => by
  unfold stp3 at h ⊢
  by_cases c:x.1 = s ∧ x.2.1 = ev
  ·rw [if_pos c]
   obtain ⟨x1,x2,x3⟩:=x
   obtain ⟨rfl,rfl⟩:=c
   simp
  ·rw [if_neg c] at h ⊢
   exact List.mem_cons_of_mem _ (zc5 h)
structure Sm (n:Nat) (s:Int) (E A:List Int):Prop where
 rel:∀ x,0 ≤ x → x < (n:Int) → (x ∈ E ↔ swp s x ∈ A)
 rE:∀ x ∈ E,0 ≤ x ∧ x < (n:Int)
 rA:∀ x ∈ A,0 ≤ x ∧ x < (n:Int)
section
variable {a:Aut} {n:Nat} {s:Int} (h:gAut a n) (hn:n ≤ 5) (hs:0 ≤ s ∧ s < (n:Int))
include h hs
include hn
omit h hn
end
end Go.AI


namespace Go.AI
open Go.Proofs
section
variable {E0 E:Env} {K:Kn} {ρ:Nat → Nat → Loc} {H:Heap} {O:List Heap} {w:World}
theorem zcC {nm d n:Nat} {ob:Ob} (e:zaa (zaT nm H :: O) d n = some ob):∃ o0,zaa (H :: O) d n = some o0 ∧ ¬ (d = 0 ∧ n = nm) ∧ (∀ l,zaq l ob ↔ zaq l o0) ∧ (d = 0 → ob = o0.kill nm) ∧ (d ≠ 0 → ob = o0):=by
 cases d with
 | zero =>
  simp only [zaa,List.getElem?_cons_zero,za0] at e
  split at e
  ·cases e
  ·rename_i hn
   cases hl:look H n with
   | none => simp [hl] at e
   | some o0 =>
    simp only [hl,Option.map_some,Option.some.injEq] at e
    subst e
    exact ⟨o0,by simpa [zaa] using hl,fun h => hn h.2,fun l => zet _ _ _,fun _ => rfl,fun h => absurd rfl h⟩
 | succ d => exact ⟨ob,by simpa [zaa] using e,fun h => by omega,fun _ => Iff.rfl,fun h => by omega,fun _ => rfl⟩
theorem HInv.dropNm (nm:Nat) (h:HInv E K ρ (H :: O) w):HInv E K ρ (zaT nm H :: O) w:=by
 have e0:(fun d n => ρ (0 + d) n) = ρ:=by funext d n; rw [Nat.zero_add]
 refine ⟨h.holds,fun d n ob e => ?_,fun d n1 o1 d' n2 o2 e1 e2 b1 b2 hbe => ?_,h.size,fun b hb hno => h.old b hb fun d n ob e => hno d n ob (by simpa [zaa] using e),fun n ob e hb => ?_,h.outer,h.Kle,h.Knew,h.rest⟩
 ·obtain ⟨o0,a1,a2,a3,a4,a5⟩:=zcC e
  have hs:=h.own d n o0 a1
  cases d with
  | zero =>
   rw [a4 rfl]
   rw [e0,List.drop_zero] at hs
   rw [e0,List.drop_zero]
   exact hs.kill (zfH nm) (fun _ => rfl)
  | succ d =>
   rw [a5 (by omega)]
   exact hs
 ·obtain ⟨p1,a1,_,a3,_⟩:=zcC e1
  obtain ⟨p2,c1,_,c3,_⟩:=zcC e2
  exact h.inj _ _ _ _ _ _ a1 c1 ((a3 _).1 b1) ((c3 _).1 b2) hbe
 ·obtain ⟨p1,a1,_,a3,_⟩:=zcC e
  exact h.loc _ _ a1 ((a3 _).1 hb)
def reE (E:Env) (K:Kn) (w:World) (q:Nat → Prop) (hq:∀ b,q b → b < w.heap.size) (hs:E.w0.heap.size ≤ w.heap.size):Env:=
 { K0:=K,ρ0:=E.ρ0,w0:=w,pr:=fun b => E.pr b ∨ q b,lt:=fun b hb => by rcases hb with h | h; exact Nat.lt_of_lt_of_le (E.lt b h) hs; exact hq b h }
theorem HInv.rebase {S:List Heap} (h:HInv E K ρ S w) {q:Nat → Prop} (hq:∀ b,q b → b < w.heap.size) (hfree:∀ nm ob b,q b → zaa S 0 nm = some ob → zaq (ρ 0 nm) ob → (ρ 0 nm).block ≠ b):HInv (reE E K w q hq h.size) K ρ S w:=
 ⟨h.holds,h.own,h.inj,Nat.le_refl _,fun _ _ _ => rfl,fun nm ob e hb hp => by
  rcases hp with hp | hp
  ·exact h.loc _ _ e hb hp
  ·exact hfree nm ob _ hp e hb rfl,h.outer,Kn.le_refl _,fun _ _ _ e => .inl e,⟨rfl,rfl,rfl⟩⟩
theorem zqC (hh:HInv E K ρ (H :: O) w) (hb:Base E0 E O) {q:Nat → Prop} (hq:∀ b,q b → b < w.heap.size):Base E0 (reE E K w q hq hh.size) O:=by
 refine ⟨Kn.le_trans hb.K hh.Kle,hb.ρ,fun b hp => .inl (hb.pr b hp),fun b o x e => ?_,Nat.le_trans hb.size hh.size,fun b hp ho => ?_,?_⟩
 ·rcases hh.Knew b o x e with h1 | h1
  ·exact hb.new b o x h1
  ·exact .inr fun hp => h1 (hb.pr b hp)
 ·show w.heap[b]? = _
  rw [hh.old b (hb.pr b hp) (hh.outerNe hb ho)]
  exact hb.old b hp ho
 ·show w.tape = _ ∧ w.os = _ ∧ w.output = _
  exact ⟨hh.rest.1.trans hb.rest.1,hh.rest.2.1.trans hb.rest.2.1,hh.rest.2.2.trans hb.rest.2.2⟩
end
section
variable {c:Cx} {s:St} {k:List Item} {ops:Array Oper} {rest:List Nat} {o:Oper} {E0:Env} {H:Heap} {O:List Heap}
end
section
variable {P:Program} {T:TT} {f:FuncId} {fn:Func} {code:Code}
end
section
variable {c:Cx} {s:St} {k:List Item} {ops:Array Oper} {rest:List Nat} {o:Oper} {g:Nat} {tab:Obj}
end
section
variable {c:Cx} {ops:Array Oper} {O:List Heap} {n:Nat} {F:SH → List Pl → Prop}
def SegF (c:Cx) (ops:Array Oper) (O:List Heap) (n:Nat) (F:SH → List Pl → Prop) (N:Nat) (r:List Oper):SH → List Pl → Prop:=fun y ac => ac.length = N ∧ GD c ops O n F r y ac
theorem zs5 {r:List Oper} {N:Nat}:∀ {l:List Oper} {x:SH} {acc:List Pl},acc.length + l.length = N → GD c ops O n (SegF c ops O n F N r) l x acc → GD c ops O n F (l ++ r) x acc
 | [],x,acc,hN,⟨qs,h1,h2⟩ => by
  cases qs with
  | nil => simpa [zbt] using h2.2
  | cons q qs => exact absurd h1 (by simp [zdh])
 | o :: l,x,acc,hN,⟨qs,h1,h2⟩ => by
  cases qs with
  | nil =>
   have:=h2.1
   simp only [List.append_nil,List.length_cons] at this hN
   omega
  | cons q qs =>
   obtain ⟨h3,h4⟩:=h1
   have hN':(acc ++ [q]).length + l.length = N:=by
    have e1:(o :: l).length = l.length + 1:=rfl
    have e2:(acc ++ [q]).length = acc.length + 1:=by rw [List.length_append]; rfl
    omega
   exact zeo h3 (zs5 hN' ⟨qs,h4,by rw [List.append_assoc]; exact h2⟩)
end
section
variable {c:Cx}
theorem znH (hT:TOk c.P c.T) (m:Nat) (hm:c.P.follows .mixedOrders = true) {id:Nat} {ops:Array Oper} {s:St} {k:List Item} {H:Heap} {O:List Heap} (hS:s.S = H :: O)
  (hml:m ≤ ops.size) (h:GE c ops O s.n (SegF c ops O s.n (FD c ops O s.n (s.σ,H) k) m (ops.toList.drop m)) (runS c.T ops O s.n 0 (ops.toList.take m) (s.σ,H) [])):GM c (.drawn id ops s k):=by
 refine ⟨?_⟩
 have h0:=zs5 (by simp; omega) (zaY hT _ _ _ _ h.h)
 rw [List.take_append_drop] at h0
 obtain ⟨qs,h1,h2⟩:=h0
 rw [List.nil_append] at h2
 have hs:s = St.of O s.n (s.σ,H):=by
  cases s
  simp only at hS
  subst hS
  rfl
 show Rch c (.code (.region id ops true) :: k) s
 rw [hs]
 exact zh0 hm h2.1 h1 h2.2
end
end Go.AI


namespace Go.AI
open Go.Proofs
set_option maxRecDepth 20000
end Go.AI


namespace Go.AI
open Go.Proofs
set_option maxRecDepth 20000
def zd1 (a:Aut) (on:List Int) (n:Nat) (s:List Int) (ev:Int):List Int × Bool × Int:=(nxt a.edges (lowP on [] false) n s ev,decide ((nxt a.edges (lowP on [] false) n s ev).length ≠ 0),0)
def prjR (a:Aut) (on:List Int) (n:Nat):Except Int (Unf (List Int)):=unfR eqB false (zd1 a on n) (zcD a) (zbK a on) (clo a.edges (lowP on [] false) n [0])
theorem zdJ {σ:Type} {eq:σ → σ → Bool} {lim:Bool} {step:σ → Int → σ × Bool × Int} {mkd:σ → Bool} {alpha:List Int} {U:Unf σ} {i:Nat} (h:U.sts.length ≤ i):∀ k,zby eq lim step mkd alpha k i U = .ok U
 | 0 => rfl
 | k + 1 => by simp only [zby,List.getElem?_eq_none h]
end Go.AI


namespace Go.AI
theorem zm9 {σ:Type} {eq:σ → σ → Bool} {lim:Bool} {step:σ → Int → σ × Bool × Int} {i:Nat} {s:σ} {ev:Int} {U V:Unf σ} (h:zbB eq lim step i s ev U = .ok V):U.sts <+: V.sts:=by
 unfold zbB at h
 split at h
 ·cases h
 split at h
 ·simp only [Except.ok.injEq] at h; subst h; exact List.prefix_refl _
 split at h
 ·simp only [Except.ok.injEq] at h; subst h; exact List.prefix_refl _
 split at h
 ·cases h
 ·simp only [Except.ok.injEq] at h; subst h; exact List.prefix_append _ _
theorem zfJ {σ:Type} {eq:σ → σ → Bool} {lim:Bool} {step:σ → Int → σ × Bool × Int} {i:Nat} {s:σ}:∀ {l:List Int} {U V:Unf σ},zau eq lim step i s l U = .ok V → U.sts <+: V.sts
 | [],U,V,h => by simp only [zau,Except.ok.injEq] at h; subst h; exact List.prefix_refl _
 | ev :: r,U,V,h => by
  simp only [zau] at h
  cases h1:zbB eq lim step i s ev U with
  | error e => rw [h1] at h; cases h
  | ok U' => rw [h1] at h; exact (zm9 h1).trans (zfJ h)
theorem ziK {σ:Type} {eq:σ → σ → Bool} {lim:Bool} {step:σ → Int → σ × Bool × Int} {mkd:σ → Bool} {alpha:List Int}:∀ {f i:Nat} {U V:Unf σ},zby eq lim step mkd alpha f i U = .ok V → U.sts <+: V.sts
 | 0,i,U,V,h => by simp only [zby,Except.ok.injEq] at h; subst h; exact List.prefix_refl _
 | f + 1,i,U,V,h => by
  simp only [zby] at h
  cases hs:U.sts[i]? with
  | none => rw [hs] at h; simp only [Except.ok.injEq] at h; subst h; exact List.prefix_refl _
  | some s =>
   rw [hs] at h
   simp only at h
   cases h1:zau eq lim step i s alpha (zbk mkd i s U) with
   | error e => rw [h1] at h; cases h
   | ok U' =>
    rw [h1] at h
    have:=zfJ h1
    rw [(zb5 mkd i s U).1] at this
    exact this.trans (ziK h)
structure PrjOk (b:Aut) (on:List Int) (n:Nat) (V:Unf (List Int)):Prop where
 fst:V.sts[0]? = some (clo b.edges (lowP on [] false) n [0])
 nd:V.sts.Nodup
 el:∀ s ∈ V.sts,s ∈ subs n
 ne:∀ s ∈ V.sts,s ≠ []
 mrk:∀ (i:Nat) E,V.sts[i]? = some E → decide ((i:Int) ∈ V.mkl) = zcD b E
 st:∀ (i:Nat) E,V.sts[i]? = some E → ∀ ev ∈ zbK b on,(nxt b.edges (lowP on [] false) n E ev = [] ∧ stp3 V.eds i ev = -1) ∨
  ∃ j:Nat,stp3 V.eds i ev = (j:Int) ∧ V.sts[j]? = some (nxt b.edges (lowP on [] false) n E ev) ∧ nxt b.edges (lowP on [] false) n E ev ≠ []
 len:V.sts.length ≤ 32 ∧ V.mkl.length ≤ 32 ∧ V.eds.length ≤ 32 * 32
abbrev NP:=Nat × Nat
section
variable (b c:Aut) (lp:Int → Bool) (n:Nat) (kp:List Int) (V W:Unf (List Int))
def atW (t:List Int) (z:NP):Prop:=V.sts[z.1]? = some (nxtL b.edges lp n (clo b.edges lp n [0]) t) ∧ W.sts[z.2]? = some (nxtL c.edges lp n (clo c.edges lp n [0]) t)
def zvY (l:List NP) (z:NP) (ev:Int):Prop:=∀ E F,V.sts[z.1]? = some E → W.sts[z.2]? = some F → (nxt b.edges lp n E ev = [] ↔ nxt c.edges lp n F ev = []) ∧
 (nxt b.edges lp n E ev ≠ [] → ∃ y ∈ l,V.sts[y.1]? = some (nxt b.edges lp n E ev) ∧ W.sts[y.2]? = some (nxt c.edges lp n F ev))
def zvX (z:NP):Prop:=∀ E F,V.sts[z.1]? = some E → W.sts[z.2]? = some F → zcD b E = zcD c F
structure prOk (i:Nat) (l:List NP):Prop where
 nd:l.Nodup
 zero:(0,0) ∈ l
 at_:∀ z ∈ l,∃ t,(∀ ev ∈ t,ev ∈ kp) ∧ atW b c lp n V W t z
 mrk:∀ (k:Nat) z,k < i → l[k]? = some z → zvX b c V W z
 ev:∀ (k:Nat) z,k < i → l[k]? = some z → ∀ ev ∈ kp,zvY b c lp n V W l z ev
variable {b c lp n kp V W}
theorem zpn (es:List Edg) (p:Int → Bool) (n:Nat) (l:List Int) (t:List Int) (ev:Int):nxtL es p n l (t ++ [ev]) = nxt es p n (nxtL es p n l t) ev:=by
 unfold nxtL
 rw [List.foldl_append]
 rfl
end
section
variable {b c:Aut} {on:List Int} {n:Nat} {kp:List Int} {V W:Unf (List Int)}
end
end Go.AI
