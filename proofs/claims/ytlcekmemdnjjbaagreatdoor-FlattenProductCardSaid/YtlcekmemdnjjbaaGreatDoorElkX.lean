/- The layer of abstract runs, part 24. -/
import Derived.Test.YtlcekmemdnjjbaaGreatDoorElkW
import Derived.Lib.SlicesCompact
import Derived.KernelRfl
import Derived.Lib.SliceRun
set_option linter.unusedSimpArgs false
set_option linter.unusedVariables false
set_option linter.all false

namespace Go.Proofs
open Go.Shelf Go.RowKit
end Go.Proofs
namespace Go.Proofs
open Go.Shelf Go.RowKit
end Go.Proofs
namespace Go.AI
open Go.Proofs
abbrev oby (T : List UInt8) : Ob := .arr 5 1 T.length (u8l T) true
theorem zoB (T s : List UInt8) : Ob.arr 5 1 (T.length + s.length) (u8l T ++ u8l s) true = oby (T ++ s) := by rw [znT]; simp [oby]
theorem zji (K : Kn) (s : ByteArray) : RepL K (Lib.strCells s) (u8l s.data.toList).flatten := zfv K s.data.toList
theorem zfC (s : ByteArray) : s.data.toList.length = s.size := by rw [Array.length_toList]; rfl
theorem zsx {c : Cx} (hP : c.P = Tryz.prog) {s : St} {o : Oper} {t nm nm2 : Nat} {dp : D} {H : Heap} {O : List Heap} (sb : ByteArray) (T : List UInt8) (hdp : dp = .i (.v (.pointer none)) ∨ dp = .own 0 nm 0 0) (hlim : T.length + sb.size ≤ 140737488355328) (ht : o.dst = some t) (hn : t < s.n) (hS : s.S = H :: O)
  (hb : look H nm = some (.tb 217 [dp, .osl 0 nm2])) (ha : look H nm2 = some (oby T)) (hne : nm ≠ nm2) :
  Wp c o s 133 [.own 0 nm 0 0, .i (.v (.string sb))] { σ := (t, .tup [ii sb.size, .i (.v .nilIface)]) :: zdy nm2 s.σ, S := ((nm, .tb 217 [.own 0 nm 0 0, .osl 0 nm2]) :: (nm2, oby (T ++ sb.data.toList)) :: zbp nm2 ((nm, .tb 217 [.own 0 nm 0 0, .osl 0 nm2]) :: H)) :: O, n := s.n } := by
 have h := zdt (c := c) (s := s) (o := o) (ys := u8l sb.data.toList) (m := sb.data.toList.length) (T := 217) (ty := 5) (rd := .tup [ii sb.size, .i (.v .nilIface)]) (dx := .i (.v (.string sb))) (x := .string sb) (res := .tuple #[.int .i64 sb.size, .nilIface]) (xs := u8l T) (n := T.length) (by rw [hP]; exact znG sb) (by rw [hP]; exact Tryz.call133)
  (fun K ρ sh v h => zaI h) (fun K ρ sh => .tup (.cons (.i (.v rfl)) (.cons (.i (.v rfl)) .nil))) hdp ht hn hS hb ha hne (fun K => zji K sb) (zk0 _) (by simp [u8l]) (by rw [zfC]; exact hlim)
 rwa [zoB] at h
theorem zsz {c : Cx} (hP : c.P = Tryz.prog) {s : St} {o : Oper} {t nm nm2 : Nat} {dp : D} {H : Heap} {O : List Heap} {T : List UInt8} (h0 : T ≠ []) (ht : o.dst = some t) (hn : t < s.n) (hS : s.S = H :: O)
  (hb : look H nm = some (.tb 217 [dp, .osl 0 nm2])) (ha : look H nm2 = some (oby T)) :
  Wp c o s 136 [.own 0 nm 0 0] { σ := (t, .i (.v (.string ⟨T.toArray⟩))) :: zdy nm2 s.σ, S := ((nm2, .arr 5 1 0 [] true) :: zbp nm2 H) :: O, n := s.n } :=
 zi1 (c := c) (s := s) (o := o) (T := 217) (ty := 5) (by rw [hP]; exact zn1) (by rw [hP]; exact Tryz.call136) h0 ht hn hS hb ha
theorem zsy {c : Cx} (hP : c.P = Tryz.prog) {s : St} {o : Oper} {t nm nm2 : Nat} {dp : D} {H : Heap} {O : List Heap} (b : UInt8) (T : List UInt8) (hdp : dp = .i (.v (.pointer none)) ∨ dp = .own 0 nm 0 0) (hlim : T.length + 1 ≤ 140737488355328) (ht : o.dst = some t) (hn : t < s.n) (hS : s.S = H :: O)
  (hb : look H nm = some (.tb 217 [dp, .osl 0 nm2])) (ha : look H nm2 = some (oby T)) (hne : nm ≠ nm2) :
  Wp c o s 135 [.own 0 nm 0 0, .i (.v (.int .u8 b.toNat))] { σ := (t, .i (.v .nilIface)) :: zdy nm2 s.σ, S := ((nm, .tb 217 [.own 0 nm 0 0, .osl 0 nm2]) :: (nm2, oby (T ++ [b])) :: zbp nm2 ((nm, .tb 217 [.own 0 nm 0 0, .osl 0 nm2]) :: H)) :: O, n := s.n } := by
 have h := zdt (c := c) (s := s) (o := o) (ys := u8l [b]) (m := 1) (T := 217) (ty := 5) (rd := .i (.v .nilIface)) (dx := .i (.v (.int .u8 b.toNat))) (x := .int .u8 b.toNat) (res := .nilIface) (xs := u8l T) (n := T.length) (by rw [hP]; exact zkV b.toNat) (by rw [hP]; exact Tryz.call135)
  (fun K ρ sh v h => zaI h) (fun K ρ sh => .i (.v rfl)) hdp ht hn hS hb ha hne (fun K => zfv K [b]) (zk0 _) (by simp [u8l]) hlim
 rwa [show T.length + 1 = T.length + [b].length from rfl, zoB] at h
end Go.AI


namespace Go.AI
open Go.Proofs
set_option maxRecDepth 20000
end Go.AI


namespace Go.AI
open Go.Proofs
set_option maxRecDepth 20000
end Go.AI


namespace Go.AI
open Go.Proofs
set_option maxRecDepth 20000
end Go.AI


namespace Go.AI
open Go.Proofs
set_option maxRecDepth 20000
def zbF (l : List Int) (n : Nat) : List Int := ((List.range n).map fun (i : Nat) => (i : Int)).filter fun x => decide (x ∈ l)
end Go.AI


namespace Go.AI
open Go.Proofs
set_option maxRecDepth 20000
end Go.AI


namespace Go.AI
open Go.Proofs
set_option maxRecDepth 20000
theorem ztn (O : List Heap) (l : List Int) (x : Int) (hl : l.length ≤ zam) : zan Tryz.prog 129 [ints l, ii x] O (bb (decide (x ∈ l))) [] O := by
 have hR : decide (x ∈ l) = decide (x ∈ l.drop 0) := rfl
 generalize decide (x ∈ l) = R at *
 refine zac Tk Tryz.func129 rfl Tryz.call129 Tryz.ntmps129 (Nat.le_of_ble_eq_true rfl) fun E => ?_
 refine zaf Tk Tryz.func129 ?_
 refine zad ?_
 refine zag (fun i : Nat => [(0, ints l), (1, ii x), (5, ii i)]) (fun _ => []) (fun _ => O) 18
  (fun i => i ≤ l.length ∧ R = decide (x ∈ l.drop i)) (fun i => l.length - i) 0 ⟨Nat.zero_le _, hR⟩ ⟨rfl, rfl, rfl, trivial⟩ rfl trivial rfl rfl ?_
 rintro i ⟨hi, hno⟩ ih
 clear hR
 refine zaf Tk Tryz.func129 ?_
 refine zae Tk Tryz.func129 rfl (fun g1 => ?_) (fun g1 => ?_)
 ·have h1 : i < l.length := by simpa using g1
  have gl : (l.map fun x => [vi x])[(i : Int).toNat]? = some [vi l[i]] := zah (f := fun x => [vi x]) h1
  have dl : l.drop i = l[i] :: l.drop (i + 1) := List.drop_eq_getElem_cons h1
  simp only [dl, List.mem_cons] at hno
  clear dl
  generalize l[i] = y at *
  refine zak Tk Tryz.func129 (by exact ⟨by omega, by show (i : Int) < (l.length : Int); omega⟩) ?_
  refine zar Tk Tryz.func129 (gl) ?_
  refine zae Tk Tryz.func129 rfl (fun g2 => ?_) (fun g2 => ?_)
  ·have g2 : y = x := beqT g2
   subst g2
   refine zai Tk (r := bb true) rfl rfl rfl trivial rfl rfl ?_
   rw [hno]
   simp
  ·have g2 : y ≠ x := beqF g2
   have hno : R = decide (x ∈ l.drop (i + 1)) := by
    rw [hno]
    exact decide_eq_decide.2 ⟨fun h => h.resolve_left (Ne.symm g2), .inr⟩
   refine zad ?_
   exact ih (i + 1) _ _ ⟨h1, hno⟩ (by omega) ⟨rfl, rfl, congrArg ii (zaB h1 hl), trivial⟩ rfl trivial rfl rfl
 ·have h1 : l.length ≤ i := by simpa using g1
  simp only [List.drop_eq_nil_of_le h1] at hno
  refine zai Tk (r := bb false) rfl rfl rfl trivial rfl rfl ?_
  rw [hno]
  simp
theorem zqV (O : List Heap) (l : List Int) (x : Int) (hl : l.length ≤ zam) : zan Tryz.prog 131 [ints l, ii x] O (ii (idxI x l 0)) [] O := by
 generalize hR : idxI x l 0 = R
 refine zac Tk Tryz.func131 rfl Tryz.call131 Tryz.ntmps131 (Nat.le_of_ble_eq_true rfl) fun E => ?_
 refine zaf Tk Tryz.func131 ?_
 refine zad ?_
 refine zag (fun i : Nat => [(0, ints l), (1, ii x), (5, ii i)]) (fun _ => []) (fun _ => O) 19
  (fun i => i ≤ l.length ∧ idxI x (l.drop i) i = R) (fun i => l.length - i) 0 ⟨Nat.zero_le _, hR⟩ ⟨rfl, rfl, rfl, trivial⟩ rfl trivial rfl rfl ?_
 rintro i ⟨hi, hno⟩ ih
 clear hR
 refine zaf Tk Tryz.func131 ?_
 refine zae Tk Tryz.func131 rfl (fun g1 => ?_) (fun g1 => ?_)
 ·have h1 : i < l.length := by simpa using g1
  have gl : (l.map fun x => [vi x])[(i : Int).toNat]? = some [vi l[i]] := zah (f := fun x => [vi x]) h1
  have dl : l.drop i = l[i] :: l.drop (i + 1) := List.drop_eq_getElem_cons h1
  rw [dl] at hno
  simp only [idxI] at hno
  clear dl
  generalize l[i] = y at *
  refine zak Tk Tryz.func131 (by exact ⟨by omega, by show (i : Int) < (l.length : Int); omega⟩) ?_
  refine zar Tk Tryz.func131 (gl) ?_
  refine zae Tk Tryz.func131 rfl (fun g2 => ?_) (fun g2 => ?_)
  ·have g2 : y = x := beqT g2
   rw [if_pos g2.symm] at hno
   subst hno
   refine zai Tk (r := ii (i : Int)) rfl rfl rfl trivial rfl rfl ?_
   rfl
  ·have g2 : y ≠ x := beqF g2
   rw [if_neg (Ne.symm g2)] at hno
   refine zad ?_
   exact ih (i + 1) _ _ ⟨h1, hno⟩ (by omega) ⟨rfl, rfl, congrArg ii (zaB h1 hl), trivial⟩ rfl trivial rfl rfl
 ·have h1 : l.length ≤ i := by simpa using g1
  rw [List.drop_eq_nil_of_le h1] at hno
  simp only [idxI] at hno
  subst hno
  refine zai Tk (r := ii (-1)) rfl rfl rfl trivial rfl rfl ?_
  rfl
def stp3 (es : List Edg) (s ev : Int) : Int := match es with
 | [] => -1
 | x :: r => if x.1 = s ∧ x.2.1 = ev then x.2.2 else stp3 r s ev
theorem znZ (O : List Heap) (a : Aut) (s ev : Int) (hl : a.edges.length ≤ zam) : zan Tryz.prog 130 [autD a, ii s, ii ev] O (ii (stp3 a.edges s ev)) [] O := by
 obtain ⟨al, st, mk, es⟩ := a
 simp only at hl ⊢
 generalize hR : stp3 es s ev = R
 refine zac Tk Tryz.func130 rfl Tryz.call130 Tryz.ntmps130 (Nat.le_of_ble_eq_true rfl) fun E => ?_
 refine zaf Tk Tryz.func130 ?_
 refine zad ?_
 refine zag (fun i : Nat => [(1, ii s), (2, ii ev), (3, .own 0 3 0 0), (7, ii i)]) (fun _ => [(3, .box [ints al, ii st, ints mk, edgs es])]) (fun _ => O) 39
  (fun i => i ≤ es.length ∧ stp3 (es.drop i) s ev = R) (fun i => es.length - i) 0 ⟨Nat.zero_le _, hR⟩ ⟨rfl, rfl, rfl, rfl, trivial⟩ rfl ⟨rfl, trivial⟩ rfl rfl ?_
 rintro i ⟨hi, hno⟩ ih
 clear hR
 refine zaf Tk Tryz.func130 ?_
 refine zae Tk Tryz.func130 rfl (fun g1 => ?_) (fun g1 => ?_)
 ·have h1 : i < es.length := by simpa using g1
  have ge : (es.map edgI)[(i : Int).toNat]? = some (edgI es[i]) := zah h1
  have dl : es.drop i = es[i] :: es.drop (i + 1) := List.drop_eq_getElem_cons h1
  rw [dl] at hno
  simp only [stp3] at hno
  clear dl
  generalize es[i] = y at *
  obtain ⟨yf, ye, yt⟩ := y
  simp only at hno
  have n1 : 0 ≤ (i : Int) ∧ (i : Int) < (es.length : Int) := by omega
  refine zak Tk Tryz.func130 (by exact n1) ?_
  refine zar Tk Tryz.func130 (ge) ?_
  refine zaF Tk Tryz.func130 rfl (fun g2 => ?_) (fun g2 => ?_)
  ·have g2 : yf = s := beqT g2
   refine zak Tk Tryz.func130 (by exact n1) ?_
   refine zar Tk Tryz.func130 (ge) ?_
   refine zae Tk Tryz.func130 rfl (fun g3 => ?_) (fun g3 => ?_)
   ·have g3 : ye = ev := beqT g3
    rw [if_pos ⟨g2, g3⟩] at hno
    subst hno
    refine zak Tk Tryz.func130 (by exact n1) ?_
    refine zar Tk Tryz.func130 (ge) ?_
    refine zai Tk (r := ii yt) rfl rfl rfl trivial rfl rfl ?_
    rfl
   ·have g3 : ye ≠ ev := beqF g3
    rw [if_neg (fun h => g3 h.2)] at hno
    refine zad ?_
    exact ih (i + 1) _ _ ⟨h1, hno⟩ (by omega) ⟨rfl, rfl, rfl, congrArg ii (zaB h1 hl), trivial⟩ rfl ⟨rfl, trivial⟩ rfl rfl
  ·have g2 : yf ≠ s := beqF g2
   rw [if_neg (fun h => g2 h.1)] at hno
   refine gcF Tk Tryz.func130 rfl ?_
   refine zad ?_
   exact ih (i + 1) _ _ ⟨h1, hno⟩ (by omega) ⟨rfl, rfl, rfl, congrArg ii (zaB h1 hl), trivial⟩ rfl ⟨rfl, trivial⟩ rfl rfl
 ·have h1 : es.length ≤ i := by simpa using g1
  rw [List.drop_eq_nil_of_le h1] at hno
  simp only [stp3] at hno
  subst hno
  refine zai Tk (r := ii (-1)) rfl rfl rfl trivial rfl rfl ?_
  rfl
theorem zly (O : List Heap) (l : List Int) (hl : l.length ≤ 1000000) : zan Tryz.prog 75 [ints l] O (.agg [ints l, ii 0, .i (.v (.slice none 0 0)), .i (.v (.slice none 0 0))]) [] O := by
 refine zac Tk Tryz.func75 rfl Tryz.call75 Tryz.ntmps75 (Nat.le_of_ble_eq_true rfl) fun E => ?_
 refine zaf Tk Tryz.func75 ?_
 refine zak Tk Tryz.func75 (by exact ⟨by show (0 + l.length) * 8 ≤ 140737488355328; omega, by show 0 + l.length ≤ 9223372036854775807; omega⟩) ?_
 refine zbm (zap 5 rfl rfl) ?_
 refine zbm (zcs rfl) ?_
 refine zao Tk (r := _) rfl rfl rfl trivial rfl rfl ?_
 show CoD (.agg [.i (.sl 1 (0 + l.length) ([] ++ l.map fun x => [vi x])), ii 0, .i (.v (.slice none 0 0)), .i (.v (.slice none 0 0))]) _
 rw [Nat.zero_add, List.nil_append]
 exact CoD.refl _
end Go.AI


namespace Go.AI
theorem zcG : ∀ {n : Nat} {l : List Nat}, l.Nodup → (∀ x ∈ l, x < n) → l.length ≤ n
 | 0, l, _, h => by
  cases l with
  | nil => exact Nat.le_refl _
  | cons a r => exact absurd (h a (by simp)) (Nat.not_lt_zero _)
 | n + 1, l, hn, h => by
  by_cases hm : n ∈ l
  ·have h1 := zcG (n := n) (l := l.erase n) (hn.erase n) fun x hx => by
    have hx2 := (hn.mem_erase_iff).1 hx
    have := h x hx2.2
    have := hx2.1
    omega
   rw [List.length_erase_of_mem hm] at h1
   omega
  ·have := zcG (n := n) (l := l) hn fun x hx => by
    have h1 := h x hx
    have : x ≠ n := fun e => hm (e ▸ hx)
    omega
   omega
structure autOk (a : Aut) : Prop where
 ed : a.edges.length ≤ 1000000
 al : a.alpha.length ≤ 1000000
 mkd : a.marked.length ≤ 1000000
 chk : chkA a = 0
theorem zba {a : Aut} (h : chkA a = 0) : zal 32 a.alpha none = 0 ∧ (0 ≤ a.states ∧ a.states ≤ 4096) ∧ zal a.states a.marked none = 0 ∧ zcd a.alpha a.states none a.edges = 0 := by
 unfold chkA at h
 by_cases h1 : zal 32 a.alpha none ≠ 0
 ·rw [if_pos h1] at h; exact absurd h h1
 rw [if_neg h1] at h
 by_cases h2 : a.states < 0
 ·rw [if_pos h2] at h; cases h
 rw [if_neg h2] at h
 by_cases h3 : a.states > 4096
 ·rw [if_pos h3] at h; cases h
 rw [if_neg h3] at h
 by_cases h4 : zal a.states a.marked none ≠ 0
 ·rw [if_pos h4] at h; exact absurd h h4
 rw [if_neg h4] at h
 exact ⟨by simpa using h1, by omega, by simpa using h4, h⟩
end Go.AI


namespace Go.AI
open Go.Proofs
set_option maxRecDepth 20000
theorem zsr (O : List Heap) (l : List Int) (x : Int) (e w : Nat) (ho : zaa O e w = some (zaK l)) (hl : l.length ≤ zam) : zan Tryz.prog 129 [.osl e w, ii x] O (bb (decide (x ∈ l))) [] O := by
 have hO : ∀ H, zaa (H :: O) (e + 1) w = some (zaK l) := fun H => zdD ho
 have hR : decide (x ∈ l) = decide (x ∈ l.drop 0) := rfl
 generalize decide (x ∈ l) = R at *
 refine zac Tk Tryz.func129 rfl Tryz.call129 Tryz.ntmps129 (Nat.le_of_ble_eq_true rfl) fun E => ?_
 refine zaf Tk Tryz.func129 ?_
 refine zad ?_
 refine zag (fun i : Nat => [(0, .osl (e + 1) w), (1, ii x), (5, ii i)]) (fun _ => []) (fun _ => O) 18
  (fun i => i ≤ l.length ∧ R = decide (x ∈ l.drop i)) (fun i => l.length - i) 0 ⟨Nat.zero_le _, hR⟩ ⟨rfl, rfl, rfl, trivial⟩ rfl trivial rfl rfl ?_
 rintro i ⟨hi, hno⟩ ih
 clear hR
 refine zaf Tk Tryz.func129 ?_
 refine zgz Tk Tryz.func129 (hO _) ?_
 refine zae Tk Tryz.func129 rfl (fun g1 => ?_) (fun g1 => ?_)
 ·have h1 : i < l.length := by simpa using g1
  have gl : (l.map fun x => [vi x])[(i : Int).toNat]? = some [vi l[i]] := zah (f := fun x => [vi x]) h1
  have dl : l.drop i = l[i] :: l.drop (i + 1) := List.drop_eq_getElem_cons h1
  simp only [dl, List.mem_cons] at hno
  clear dl
  generalize l[i] = y at *
  refine zgz Tk Tryz.func129 (hO _) ?_
  refine zak Tk Tryz.func129 (by exact ⟨by omega, by show (i : Int) < (l.length : Int); omega⟩) ?_
  refine zgz Tk Tryz.func129 (hO _) ?_
  refine zar Tk Tryz.func129 (gl) ?_
  refine zae Tk Tryz.func129 rfl (fun g2 => ?_) (fun g2 => ?_)
  ·have g2 : y = x := beqT g2
   subst g2
   refine zai Tk (r := bb true) rfl rfl rfl trivial rfl rfl ?_
   rw [hno]
   simp
  ·have g2 : y ≠ x := beqF g2
   have hno : R = decide (x ∈ l.drop (i + 1)) := by
    rw [hno]
    exact decide_eq_decide.2 ⟨fun h => h.resolve_left (Ne.symm g2), .inr⟩
   refine zad ?_
   exact ih (i + 1) _ _ ⟨h1, hno⟩ (by omega) ⟨rfl, rfl, congrArg ii (zaB h1 hl), trivial⟩ rfl trivial rfl rfl
 ·have h1 : l.length ≤ i := by simpa using g1
  simp only [List.drop_eq_nil_of_le h1] at hno
  refine zai Tk (r := bb false) rfl rfl rfl trivial rfl rfl ?_
  rw [hno]
  simp
def fvis (es : List Edg) (s : Int) : List Int → List Int → List Int
 | [], out => out
 | ev :: r, out => fvis es s r (if 0 ≤ stp3 es s ev ∧ stp3 es s ev ∉ out then out ++ [stp3 es s ev] else out)
def fndL (es : List Edg) (alpha : List Int) : Nat → Nat → List Int → List Int
 | 0, _, out => out
 | f + 1, i, out => match out[i]? with
  | none => out
  | some s => fndL es alpha f (i + 1) (fvis es s alpha out)
def zbQ (a : Aut) : List Int := fndL a.edges a.alpha 4097 0 [0]
structure fOk (n : Int) (out : List Int) : Prop where
 nd : out.Nodup
 b : ∀ x ∈ out, 0 ≤ x ∧ x < n
theorem zhV {n : Int} {out : List Int} (h : fOk n out) : (out.length : Int) ≤ n ∨ out = [] := by
 cases out with
 | nil => exact .inr rfl
 | cons x r =>
  left
  have hx := h.b x (by simp)
  have h1 := zcG (n := n.toNat) (l := (x :: r).map Int.toNat) ?_ ?_
  ·rw [List.length_map] at h1; omega
  ·unfold List.Nodup
   rw [List.pairwise_map]
   refine h.nd.imp_of_mem fun {a b} ha hb hne e => hne ?_
   have := h.b a ha
   have := h.b b hb
   omega
  ·intro y hy
   obtain ⟨z, hz, rfl⟩ := List.mem_map.1 hy
   have := h.b z hz
   omega
theorem znY {n : Int} : ∀ {es : List Edg} {s ev : Int}, (∀ x ∈ es, 0 ≤ x.2.2 ∧ x.2.2 < n) → stp3 es s ev = -1 ∨ (0 ≤ stp3 es s ev ∧ stp3 es s ev < n)
 | [], _, _, _ => .inl rfl
 | x :: r, s, ev, h => by
  unfold stp3
  split
  ·exact .inr (h x (by simp))
  ·exact znY fun y hy => h y (by simp [hy])
theorem zo5 {n : Int} {out : List Int} {t : Int} (h : fOk n out) (h1 : 0 ≤ t ∧ t < n) (h2 : t ∉ out) : fOk n (out ++ [t]) := by
 refine ⟨?_, fun x hx => ?_⟩
 ·unfold List.Nodup
  rw [List.pairwise_append]
  refine ⟨h.nd, List.pairwise_singleton _ _, fun a ha b hb => ?_⟩
  rw [List.mem_singleton] at hb
  subst hb
  exact fun e => h2 (e ▸ ha)
 ·rcases List.mem_append.1 hx with hx | hx
  ·exact h.b x hx
  ·rw [List.mem_singleton] at hx
   subst hx
   exact h1
theorem zoX {es : List Edg} {alpha out : List Int} {i : Nat} (h : out.length ≤ i) : ∀ f, fndL es alpha f i out = out
 | 0 => rfl
 | f + 1 => by simp only [fndL, List.getElem?_eq_none h]
set_option maxHeartbeats 4000000 in
theorem zq2 (O : List Heap) (a : Aut) (ha : autOk a) (h1 : 1 ≤ a.states) : zan Tryz.prog 128 [autD a] O (ints (zbQ a)) [] O := by
 obtain ⟨c1, c2, c3, c4⟩ := zba ha.chk
 obtain ⟨_, eb, _⟩ := za8 c4
 have hed := ha.ed
 have hal := ha.al
 have hst := fun O s ev => znZ O a s ev (by simp only [zam]; omega)
 have hsb := fun s ev => znY (n := a.states) (es := a.edges) (s := s) (ev := ev) fun x hx => (eb x hx).2.1
 have hno : zbQ a = fndL a.edges a.alpha (4097 - 0) 0 [0] := rfl
 generalize zbQ a = R at *
 obtain ⟨al, n, mk, es⟩ := a
 simp only at *
 clear c1 c3 c4 eb
 refine zac Tk Tryz.func128 rfl Tryz.call128 Tryz.ntmps128 (Nat.le_of_ble_eq_true rfl) fun E => ?_
 refine zaf Tk Tryz.func128 ?_
 refine zae Tk Tryz.func128 rfl (fun g0 => ?_) (fun g0 => ?_)
 rotate_left
 ·have g0 : ¬ n > 0 := of_decide_eq_false g0
  omega
 refine zak Tk Tryz.func128 (by exact ⟨by decide, by decide⟩) ?_
 refine zad ?_
 refine zaw (zkW 12 48 rfl rfl rfl) ?_
 refine zag (fun x : Nat × List Int => [(1, .own 0 1 0 0), (3, .osl 0 48), (4, ii x.1)]) (fun x => [(1, .box [ints al, ii n, ints mk, edgs es]), (48, zaK x.2)]) (fun _ => O) 50
  (fun x => x.1 ≤ x.2.length ∧ fOk n x.2 ∧ R = fndL es al (4097 - x.1) x.1 x.2) (fun x => 4097 - x.1) (0, [0])
  ⟨Nat.zero_le _, ⟨by simp, fun x hx => by rw [List.mem_singleton] at hx; subst hx; omega⟩, hno⟩ ⟨rfl, rfl, rfl, trivial⟩ rfl ⟨rfl, rfl, trivial⟩ rfl rfl ?_
 clear hno g0
 rintro ⟨i, out⟩ ⟨hi, hf, hno⟩ ih
 simp only at hi hf hno
 have hol : out.length ≤ 4096 := by
  rcases zhV hf with h | h
  ·omega
  ·rw [h]; decide
 refine zaf Tk Tryz.func128 ?_
 refine zae Tk Tryz.func128 rfl (fun g1 => ?_) (fun g1 => ?_)
 ·have h1 : i < out.length := by simpa using g1
  clear g1
  have hs0 : out[i]? = some out[i] := List.getElem?_eq_getElem h1
  have hsr := hf.b _ (List.getElem_mem h1)
  generalize out[i] = s at *
  have hno : R = fndL es al (4097 - (i + 1)) (i + 1) (fvis es s al out) := by
   rw [hno, show 4097 - i = (4097 - (i + 1)) + 1 by omega]
   simp only [fndL, hs0]
  have hV0 : fvis es s al out = fvis es s (al.drop 0) out := rfl
  generalize fvis es s al out = V at *
  refine zad ?_
  refine zag (fun x : Nat × List Int => [(1, .own 0 1 0 0), (3, .osl 0 48), (4, ii i), (5, ii x.1)]) (fun x => [(1, .box [ints al, ii n, ints mk, edgs es]), (48, zaK x.2)]) (fun _ => O) 50
   (fun x => x.1 ≤ al.length ∧ fOk n x.2 ∧ i < x.2.length ∧ x.2[i]? = some s ∧ V = fvis es s (al.drop x.1) x.2) (fun x => al.length - x.1) (0, out)
   ⟨Nat.zero_le _, hf, h1, hs0, hV0⟩ ⟨rfl, rfl, rfl, rfl, trivial⟩ rfl ⟨rfl, rfl, trivial⟩ rfl rfl ?_
  clear hV0 hf hs0 h1 hol hi
  rintro ⟨j, out⟩ ⟨hj, hf, hil, hs, hV⟩ ih2
  simp only at hj hf hil hs hV
  have hol : out.length ≤ 4096 := by
   rcases zhV hf with h | h
   ·omega
   ·rw [h]; decide
  refine zaf Tk Tryz.func128 ?_
  refine zae Tk Tryz.func128 rfl (fun g2 => ?_) (fun g2 => ?_)
  ·have h3 : j < al.length := by simpa using g2
   clear g2
   have ga : (al.map fun x => [vi x])[(j : Int).toNat]? = some [vi al[j]] := zah (f := fun x => [vi x]) h3
   have da : al.drop j = al[j] :: al.drop (j + 1) := List.drop_eq_getElem_cons h3
   rw [da] at hV
   simp only [fvis] at hV
   clear da
   generalize al[j] = ev at *
   have gs : (out.map fun x => [vi x])[(i : Int).toNat]? = some [vi s] := by
    rw [List.getElem?_map, show (i : Int).toNat = i by omega, hs]
    rfl
   have hst1 := fun O => hst O s ev
   have hsb1 := hsb s ev
   generalize stp3 es s ev = t at *
   have hj1 : ii (IntKind.i64.wrap ((j : Int) + 1)) = ii ((j + 1 : Nat) : Int) := congrArg ii (zaB (n := 1000001) (by omega) (by decide))
   have hho := fun O ho => zsr O out t 0 48 ho (by simp only [zam]; omega)
   refine zaq Tk Tryz.func128 zay rfl ?_
   refine zat Tk (by exact ⟨by omega, by show (i : Int) < (out.length : Int); omega⟩) ?_
   refine zaA Tk (gs) ?_
   refine zat Tk (by exact ⟨by omega, by show (j : Int) < (al.length : Int); omega⟩) ?_
   refine zaA Tk (ga) ?_
   refine zaN Tk (fun _ => hst1 _) rfl rfl rfl ?_
   refine zav Tk Tryz.func128 (by kernel_rfl) ?_
   refine zaF Tk Tryz.func128 rfl (fun c1 => ?_) (fun c1 => ?_)
   ·have c1 : t ≥ 0 := of_decide_eq_true c1
    refine zaj Tk Tryz.func128 (hho _ rfl) rfl rfl rfl rfl rfl ?_
    refine zae Tk Tryz.func128 rfl (fun c2 => ?_) (fun c2 => ?_)
    ·have c2 : t ∉ out := of_decide_eq_false (notT c2)
     rw [if_pos ⟨c1, c2⟩] at hV
     refine zak Tk Tryz.func128 (by exact ⟨by show (out.length + 1) * 8 ≤ 140737488355328; omega, by show out.length + 1 ≤ 9223372036854775807; omega⟩) ?_
     refine zad ?_
     refine ih2 (j + 1, out ++ [t]) _ _ ⟨h3, zo5 hf (by omega) c2, by simp only [List.length_append]; omega, (List.getElem?_append_left hil).trans hs, hV⟩ (by simp only; omega) ⟨rfl, rfl, rfl, hj1, trivial⟩ rfl ⟨rfl, congrArg some (zaR out t), trivial⟩ rfl rfl
    ·have c2 : t ∈ out := of_decide_eq_true (notF c2)
     rw [if_neg (fun h => h.2 c2)] at hV
     refine zad ?_
     exact ih2 (j + 1, out) _ _ ⟨h3, hf, hil, hs, hV⟩ (by simp only; omega) ⟨rfl, rfl, rfl, hj1, trivial⟩ rfl ⟨rfl, rfl, trivial⟩ rfl rfl
   ·have c1 : ¬ t ≥ 0 := of_decide_eq_false c1
    rw [if_neg (fun h => c1 h.1)] at hV
    refine gcF Tk Tryz.func128 rfl ?_
    refine zad ?_
    exact ih2 (j + 1, out) _ _ ⟨h3, hf, hil, hs, hV⟩ (by simp only; omega) ⟨rfl, rfl, rfl, hj1, trivial⟩ rfl ⟨rfl, rfl, trivial⟩ rfl rfl
  ·have h3 : al.length ≤ j := by simpa using g2
   rw [List.drop_eq_nil_of_le h3] at hV
   simp only [fvis] at hV
   subst hV
   refine zad ?_
   exact ih (i + 1, V) _ _ ⟨by simp only; omega, hf, hno⟩ (by simp only; omega) ⟨rfl, rfl, congrArg ii (zaB (n := 5000) (by omega) (by decide)), trivial⟩ rfl ⟨rfl, rfl, trivial⟩ rfl rfl
 ·have h1 : out.length ≤ i := by simpa using g1
  rw [zoX h1] at hno
  subst hno
  refine zbm (zap 48 rfl rfl) ?_
  refine zai Tk (r := ints R) rfl rfl rfl trivial rfl rfl ?_
  rfl
end Go.AI


namespace Go.AI
def rvB (p : Int → Bool) (s : Int) : List Edg → List Int → List Int
 | [], l => l
 | e :: r, l => rvB p s r (if e.1 = s ∧ p e.2.1 = true ∧ e.2.2 ∉ l then l ++ [e.2.2] else l)
def rlB (es : List Edg) (p : Int → Bool) : Nat → Nat → List Int → List Int
 | 0, _, l => l
 | f + 1, i, l => match l[i]? with
  | none => l
  | some s => rlB es p f (i + 1) (rvB p s es l)
def zs0 (es : List Edg) (p : Int → Bool) (n : Nat) (l : List Int) : List Int := rlB es p (l.length + n) 0 l
def clo (es : List Edg) (p : Int → Bool) (n : Nat) (l : List Int) : List Int := zbF (zs0 es p n l) n
structure grOk (n : Nat) (fr l : List Int) : Prop where
 ex : ∃ ad, l = fr ++ ad ∧ fOk n ad
inductive Rc (es : List Edg) (p : Int → Bool) (l : List Int) : Int → Prop
 | base {x : Int} : x ∈ l → Rc es p l x
 | step {e : Edg} : Rc es p l e.1 → e ∈ es → p e.2.1 = true → Rc es p l e.2.2
theorem zc5 {l : List Int} {n : Nat} {x : Int} : x ∈ zbF l n ↔ (0 ≤ x ∧ x < (n : Int)) ∧ x ∈ l := by
 unfold zbF
 rw [List.mem_filter, List.mem_map, decide_eq_true_eq]
 constructor
 ·rintro ⟨⟨i, hi, rfl⟩, h⟩
  rw [List.mem_range] at hi
  exact ⟨by omega, h⟩
 ·rintro ⟨h1, h⟩
  exact ⟨⟨x.toNat, List.mem_range.2 (by omega), by omega⟩, h⟩
theorem zdE (l : List Int) (n : Nat) : (zbF l n).Pairwise (· < ·) := by
 unfold zbF
 refine List.Pairwise.filter _ ?_
 rw [List.pairwise_map]
 exact List.pairwise_lt_range.imp fun {a b} h => by omega
theorem zrC : ∀ {l m : List Int}, l.Pairwise (· < ·) → m.Pairwise (· < ·) → (∀ x, x ∈ l ↔ x ∈ m) → l = m
 | [], [], _, _, _ => rfl
 | [], y :: m, _, _, h => absurd ((h y).2 (by simp)) (by simp)
 | x :: l, [], _, _, h => absurd ((h x).1 (by simp)) (by simp)
 | x :: l, y :: m, hl, hm, h => by
  rw [List.pairwise_cons] at hl hm
  have hxy : x = y := by
   have h1 := (h x).1 (by simp)
   have h2 := (h y).2 (by simp)
   rcases List.mem_cons.1 h1 with h1 | h1
   ·exact h1
   ·rcases List.mem_cons.1 h2 with h2 | h2
    ·exact h2.symm
    ·have := hl.1 y h2
     have := hm.1 x h1
     omega
  subst hxy
  rw [zrC hl.2 hm.2 fun z => ?_]
  have hz := h z
  rw [List.mem_cons, List.mem_cons] at hz
  constructor
  ·intro hzl
   rcases hz.1 (.inr hzl) with rfl | h'
   ·exact absurd (hl.1 z hzl) (by omega)
   ·exact h'
  ·intro hzl
   rcases hz.2 (.inr hzl) with rfl | h'
   ·exact absurd (hm.1 z hzl) (by omega)
   ·exact h'
def zcC (l : List Int) : List Int := l.mergeSort fun x y => decide (x ≤ y)
theorem zd1 (l : List Int) : (zcC l).length = l.length := by unfold zcC; exact List.length_mergeSort l
theorem zn2 {l : List Int} {x : Int} : x ∈ zcC l ↔ x ∈ l := List.mem_mergeSort
theorem zqj (l : List Int) : (zcC l).Pairwise (· ≤ ·) := by
 unfold zcC
 have := List.pairwise_mergeSort (le := fun x y : Int => decide (x ≤ y)) (fun a b c h1 h2 => by simp only [decide_eq_true_eq] at *; omega) (fun a b => by simp only [Bool.or_eq_true, decide_eq_true_eq]; omega) l
 exact this.imp fun {a b} h => of_decide_eq_true h
theorem zcn {zs : List Int} (hz : zs.Pairwise (· ≤ ·)) : ∀ m, m ≤ zs.length → (Lib.compactUpTo zs.toArray m).Pairwise (· < ·) ∧ ∀ x, x ∈ Lib.compactUpTo zs.toArray m ↔ x ∈ zs.take m
 | 0, _ => by simp [Lib.compactUpTo]
 | m + 1, hm => by
  obtain ⟨h1, h2⟩ := zcn hz m (by omega)
  have hg : ∀ j (hj : j < zs.length), zs.toArray[j]! = zs[j] := fun j hj => by simp [hj]
  have htk : zs.take (m + 1) = zs.take m ++ [zs[m]] := by rw [List.take_add_one, List.getElem?_eq_getElem (by omega)]; rfl
  rw [Lib.compactUpTo_succ, htk]
  by_cases hk : Lib.keeps zs.toArray m = true
  ·rw [if_pos hk]
   have hlt : ∀ x ∈ zs.take m, x < zs[m] := by
    intro x hx
    have hm0 : m ≠ 0 := by rintro rfl; simp at hx
    simp only [Lib.keeps, decide_eq_true_eq] at hk
    rcases hk with hk | hk
    ·exact absurd hk hm0
    rw [hg m (by omega), hg (m - 1) (by omega)] at hk
    have hpw := List.pairwise_iff_getElem.1 hz
    have h3 := hpw (m - 1) m (by omega) (by omega) (by omega)
    obtain ⟨j, hj, rfl⟩ := List.getElem_of_mem hx
    rw [List.length_take] at hj
    rw [List.getElem_take]
    have h4 : zs[j] ≤ zs[m - 1] := by
     rcases Nat.lt_or_ge j (m - 1) with h | h
     ·exact hpw j (m - 1) (by omega) (by omega) h
     ·have : j = m - 1 := by omega
      subst this
      exact Int.le_refl _
    omega
   constructor
   ·rw [List.pairwise_append]
    refine ⟨h1, List.pairwise_singleton _ _, fun a ha b hb => ?_⟩
    rw [List.mem_singleton] at hb
    subst hb
    rw [hg m (by omega)]
    exact hlt a ((h2 a).1 ha)
   ·intro x
    rw [List.mem_append, List.mem_append, h2, hg m (by omega)]
  ·rw [if_neg hk, List.append_nil]
   refine ⟨h1, fun x => ?_⟩
   rw [h2, List.mem_append, List.mem_singleton]
   refine ⟨.inl, fun h => h.elim id fun h => ?_⟩
   subst h
   simp only [Lib.keeps, decide_eq_true_eq, not_or, ne_eq, Decidable.not_not] at hk
   obtain ⟨hm0, hk⟩ := hk
   rw [hg m (by omega), hg (m - 1) (by omega)] at hk
   rw [hk]
   exact List.mem_iff_getElem.2 ⟨m - 1, by rw [List.length_take]; omega, by rw [List.getElem_take]⟩
theorem zen {l : List Int} {n : Nat} (hl : ∀ x ∈ l, 0 ≤ x ∧ x < (n : Int)) : Lib.compact (zcC l) = zbF l n := by
 obtain ⟨h1, h2⟩ := zcn (zqj l) (zcC l).length (Nat.le_refl _)
 refine zrC h1 (zdE l n) fun x => ?_
 show x ∈ Lib.compactUpTo _ _ ↔ _
 rw [h2, List.take_length, zn2, zc5]
 exact ⟨fun h => ⟨hl x h, h⟩, fun h => h.2⟩
end Go.AI


namespace Go.AI
open Go.Proofs
set_option maxRecDepth 20000
end Go.AI


namespace Go.AI
open Go.Proofs
set_option maxRecDepth 20000
structure Moved (E0 E : Env) (nm : Nat) : Prop where
 K0 : E.K0 = E0.K0
 w0 : E.w0 = E0.w0
 ρ : ∀ d n, (d ≠ 0 ∨ n ≠ nm) → E.ρ0 d n = E0.ρ0 d n
 sub : ∀ b, E.pr b → E0.pr b
 pr : ∀ b, E0.pr b → ((E0.ρ0 0 nm).base ≠ none → b ≠ (E0.ρ0 0 nm).block) → E.pr b
 blk : (E.ρ0 0 nm).base ≠ none → E0.w0.heap.size ≤ (E.ρ0 0 nm).block ∨ ((E0.ρ0 0 nm).base ≠ none ∧ (E.ρ0 0 nm).block = (E0.ρ0 0 nm).block)
section
variable {P : Program} {T : TT} {f : FuncId} {fn : Func} {code : Code}
end
section
variable {c : Cx} {s : St} {k : List Item} {ops : Array Oper} {rest : List Nat} {o : Oper} {E0 : Env} {H : Heap} {O : List Heap}
end
section
variable {P : Program} {T : TT} {E : Env} {K : Kn} {ρ ρ' : Nat → Nat → Loc} {S : List Heap} {w : World} {sh sh' : Nat → Nat → Option Sh} {m : Nat}
end
section
variable {c : Cx} {s : St} {k : List Item} {ops : Array Oper} {rest : List Nat} {o : Oper} {E0 : Env} {H0 H1 H : Heap} {O : List Heap}
end
end Go.AI


namespace Go.AI
open Go.Proofs
set_option maxRecDepth 20000
abbrev bools (sn : List Bool) : Ob := .arr 4 1 sn.length (sn.map fun b => [.v (.bool b)]) true
end Go.AI


namespace Go.AI
open Go.Proofs
set_option maxRecDepth 20000
set_option maxHeartbeats 400000
def zcY (m : Ext) : Sta := ⟨m.init, m.vars.map (·.init)⟩
theorem zrZ (O : List Heap) (m : Ext) (hv : m.vars.length ≤ 16) : zan Tryz.prog 165 [extD m] O (staD (zcY m)) [] O := by
 refine zac Tk Tryz.func165 rfl Tryz.call165 Tryz.ntmps165 (Nat.le_of_ble_eq_true rfl) fun E => ?_
 refine zaf Tk Tryz.func165 ?_
 refine zad ?_
 refine zaw (zaP 3 21 3 1 (pre := [ii m.init]) (post := []) rfl rfl rfl) ?_
 refine zag (fun i : Nat => [(2, .own 0 2 0 0), (3, .own 0 3 0 0), (10, vrs m.vars), (11, ii m.vars.length), (12, ii i)]) (fun i => [(3, .box [ii m.init, .osl 0 21]), (21, zaK ((m.vars.take i).map (·.init))), (2, .box [ii 0, .i (.v (.slice none 0 0))])]) (fun _ => O) 25
  (fun i => i ≤ m.vars.length) (fun i => m.vars.length - i) 0 (Nat.zero_le _) ⟨rfl, rfl, rfl, rfl, rfl, trivial⟩ rfl ⟨rfl, rfl, rfl, trivial⟩ rfl rfl ?_
 rintro i hi ih
 refine zaf Tk Tryz.func165 ?_
 refine zae Tk Tryz.func165 rfl (fun h1 => ?_) (fun h1 => ?_)
 ·have h1 : i < m.vars.length := by simpa using h1
  have hl : ((m.vars.take i).map (·.init)).length = i := by simp; omega
  have e : (m.vars.take (i + 1)).map (·.init) = (m.vars.take i).map (·.init) ++ [m.vars[i].init] := zcA h1
  have hg : (m.vars.map vrI)[(i : Int).toNat]? = some (vrI m.vars[i]) := zah h1
  generalize m.vars[i] = v at e hg
  generalize (m.vars.take i).map (·.init) = l at *
  refine zak Tk Tryz.func165 (by omega) ?_
  refine zar Tk Tryz.func165 (hg) ?_
  refine zak Tk Tryz.func165 (by exact ⟨by show (l.length + 1) * 8 ≤ 140737488355328; omega, by show l.length + 1 ≤ 9223372036854775807; omega⟩) ?_
  refine zad ?_
  refine ih (i + 1) _ _ h1 (by omega) ⟨rfl, rfl, rfl, rfl, congrArg ii (zaB (n := 16) (by omega) (by decide)), trivial⟩ rfl ⟨rfl, by rw [e]; exact congrArg some (zaR l v.init), rfl, trivial⟩ rfl rfl
 ·have h1 : m.vars.length ≤ i := by simpa using h1
  rw [List.take_of_length_le h1]
  refine zbm (zap 21 rfl rfl) ?_
  refine zbm (zcs rfl) ?_
  refine zai Tk (r := staD (zcY m)) rfl rfl rfl trivial rfl rfl ?_
  rfl
abbrev ztb (l : List Mv) : Option Nat → D
 | none => .i (.v (.pointer none))
 | some k => .i (.ptr 8 (l.map mvI) k 0)
def chs (s : Sta) (ev : Int) : List Mv → Nat → Option Nat → Bool → Option Nat × Int
 | [], _, out, two => if two then (none, 18) else (out, 0)
 | x :: r, i, out, two =>
  if x.frm ≠ s.loc ∨ x.ev ≠ ev then chs s ev r (i + 1) out two else
  if (zbh x.g s.vals).2 ≠ 0 then (none, 17) else
  if (zbh x.g s.vals).1 = 1 then chs s ev r (i + 1) (some i) (out.isSome || two) else chs s ev r (i + 1) out two
theorem zrj (O : List Heap) (m : Ext) (s : Sta) (ev : Int) (hok : extOk m) (hl : s.vals.length ≤ zam) : zan Tryz.prog 198 [extD m, staD s, ii ev] O (.tup [ztb m.moves (chs s ev m.moves 0 none false).1, ii (chs s ev m.moves 0 none false).2]) [] O := by
 have hmo := hok.mo
 obtain ⟨sl, sv⟩ := s
 generalize hR : chs ⟨sl, sv⟩ ev m.moves 0 none false = R
 refine zac Tk Tryz.func198 rfl Tryz.call198 Tryz.ntmps198 (Nat.le_of_ble_eq_true rfl) fun E => ?_
 refine zaf Tk Tryz.func198 ?_
 refine zad ?_
 refine zag (fun x : Nat × Option Nat × Bool => [(2, ii ev), (3, .own 0 3 0 0), (4, .own 0 4 0 0), (8, ztb m.moves x.2.1), (9, bb x.2.2), (16, ii m.moves.length), (17, ii x.1)]) (fun _ => [(4, .box [ii sl, ints sv]), (3, .box (extC m))]) (fun _ => O) 62
  (fun x => x.1 ≤ m.moves.length ∧ R = chs ⟨sl, sv⟩ ev (m.moves.drop x.1) x.1 x.2.1 x.2.2) (fun x => m.moves.length - x.1) (0, none, false) ⟨Nat.zero_le _, hR.symm⟩ ⟨rfl, rfl, rfl, rfl, rfl, rfl, rfl, trivial⟩ rfl ⟨rfl, rfl, trivial⟩ rfl rfl ?_
 rintro ⟨i, out, two⟩ ⟨hi, hno⟩ ih
 clear hR
 simp only at hi hno
 refine zaf Tk Tryz.func198 ?_
 refine zae Tk Tryz.func198 rfl (fun h1 => ?_) (fun h1 => ?_)
 ·have h1 : i < m.moves.length := by simpa using h1
  have hd : m.moves.drop i = m.moves[i] :: m.moves.drop (i + 1) := List.drop_eq_getElem_cons h1
  have hg : (m.moves.map mvI)[(i : Int).toNat]? = some (mvI m.moves[i]) := zah h1
  have hx := (hok.mv _ (List.getElem_mem h1)).1
  generalize m.moves[i] = x at *
  obtain ⟨xf, xe, xt, xg, xu⟩ := x
  simp only at hx
  rw [hd] at hno
  simp only [chs] at hno
  have hev := zbJ
  refine zak Tk Tryz.func198 (by omega) ?_
  refine zaq Tk Tryz.func198 zay rfl ?_
  refine zaA Tk (hg) ?_
  refine zb8 Tk (fun h2 => ?_) (fun h2 => ?_)
  ·have h2 : xf ≠ sl := bneT h2
   rw [if_pos (.inl h2)] at hno
   refine zav Tk Tryz.func198 (by kernel_rfl) ?_
   refine gcT Tk Tryz.func198 rfl ?_
   refine zad ?_
   refine ih (i + 1, out, two) _ _ ⟨h1, hno⟩ (by simp only; omega) ⟨rfl, rfl, rfl, rfl, rfl, rfl, congrArg ii (zaB h1 hmo), trivial⟩ rfl ⟨rfl, rfl, trivial⟩ (by cases out <;> rfl) rfl
  have h2 : xf = sl := bneF h2
  refine zaA Tk (hg) ?_
  refine zav Tk Tryz.func198 (by kernel_rfl) ?_
  refine zae Tk Tryz.func198 rfl (fun h3 => ?_) (fun h3 => ?_)
  ·have h3 : xe ≠ ev := bneT h3
   rw [if_pos (.inr h3)] at hno
   refine zad ?_
   refine ih (i + 1, out, two) _ _ ⟨h1, hno⟩ (by simp only; omega) ⟨rfl, rfl, rfl, rfl, rfl, rfl, congrArg ii (zaB h1 hmo), trivial⟩ rfl ⟨rfl, rfl, trivial⟩ (by cases out <;> rfl) rfl
  have h3 : xe = ev := bneF h3
  rw [if_neg (by simp [h2, h3])] at hno
  refine zaq Tk Tryz.func198 zay rfl ?_
  refine zaA Tk (hg) ?_
  refine zaN Tk (fun _ => zbJ _ xg sv hx hl) rfl rfl rfl ?_
  refine zav Tk Tryz.func198 (by kernel_rfl) ?_
  refine zae Tk Tryz.func198 rfl (fun h4 => ?_) (fun h4 => ?_)
  ·have h4 := bneT h4
   rw [if_pos h4] at hno
   subst hno
   refine zai Tk (r := .tup [.i (.v (.pointer none)), ii 17]) rfl rfl rfl trivial rfl rfl ?_
   rfl
  have h4 := bneF h4
  rw [if_neg (by simpa using h4)] at hno
  refine zae Tk Tryz.func198 rfl (fun h5 => ?_) (fun h5 => ?_)
  ·have h5 := beqT h5
   rw [if_pos h5] at hno
   have hlt := h1
   cases out with
   | none =>
    refine gkF Tk Tryz.func198 rfl ?_
    refine zad ?_
    refine ih (i + 1, some i, two) _ _ ⟨hlt, hno⟩ (by simp only; omega) ⟨rfl, rfl, rfl, rfl, rfl, rfl, congrArg ii (zaB hlt hmo), trivial⟩ rfl ⟨rfl, rfl, trivial⟩ rfl rfl
   | some k =>
    refine gkT Tk Tryz.func198 rfl ?_
    refine zad ?_
    refine ih (i + 1, some i, true) _ _ ⟨hlt, hno⟩ (by simp only; omega) ⟨rfl, rfl, rfl, rfl, rfl, rfl, congrArg ii (zaB hlt hmo), trivial⟩ rfl ⟨rfl, rfl, trivial⟩ rfl rfl
  ·have h5 := beqF h5
   rw [if_neg h5] at hno
   refine zad ?_
   refine ih (i + 1, out, two) _ _ ⟨h1, hno⟩ (by simp only; omega) ⟨rfl, rfl, rfl, rfl, rfl, rfl, congrArg ii (zaB h1 hmo), trivial⟩ rfl ⟨rfl, rfl, trivial⟩ (by cases out <;> rfl) rfl
 ·have h1 : m.moves.length ≤ i := by simpa using h1
  rw [List.drop_eq_nil_of_le h1] at hno
  simp only [chs] at hno
  refine zae Tk Tryz.func198 rfl (fun h2 => ?_) (fun h2 => ?_)
  ·rw [if_pos h2] at hno
   subst hno
   refine zai Tk (r := .tup [.i (.v (.pointer none)), ii 18]) rfl rfl rfl trivial rfl rfl ?_
   rfl
  ·have h2 : two = false := h2
   rw [if_neg (by rw [h2]; simp)] at hno
   subst hno
   cases out with
   | none =>
    refine zai Tk (r := .tup [.i (.v (.pointer none)), ii 0]) rfl rfl rfl trivial rfl rfl ?_
    rfl
   | some k =>
    refine zai Tk (r := .tup [.i (.ptr 8 (m.moves.map mvI) k 0), ii 0]) rfl rfl rfl trivial rfl rfl ?_
    rfl
end Go.AI


namespace Go.AI
open Go.Proofs
set_option maxRecDepth 20000
theorem zlD {s : Sta} {ev : Int} : ∀ {l : List Mv} {i : Nat} {out : Option Nat} {two : Bool} {k : Nat}, (∀ k, out = some k → k < i) → (chs s ev l i out two).1 = some k → k < i + l.length
 | [], i, out, two, k, ho, h => by
  simp only [chs] at h
  split at h
  ·cases h
  ·exact ho k h
 | x :: r, i, out, two, k, ho, h => by
  simp only [chs] at h
  have h1 : (∀ k, out = some k → k < i + 1) := fun k hk => by have := ho k hk; omega
  split at h
  ·have := zlD h1 h; simp only [List.length_cons]; omega
  ·split at h
   ·cases h
   ·split at h
    ·have := zlD (out := some i) (fun k hk => by simp at hk; omega) h; simp only [List.length_cons]; omega
    ·have := zlD h1 h; simp only [List.length_cons]; omega
theorem zcV {n : Int} : ∀ {l : List Upd} {p : Option Int}, zdC n p l = 0 → ∀ u ∈ l, 0 ≤ u.v ∧ u.v < n ∧ zbN u.x n 1 = 0
 | [], _, _, u, hu => by simp at hu
 | x :: r, p, h, u, hu => by
  simp only [zdC] at h
  by_cases h1 : x.v < 0 ∨ x.v ≥ n
  ·rw [if_pos h1] at h; cases h
  rw [if_neg h1] at h
  by_cases h2 : p.any (x.v ≤ ·) = true
  ·rw [if_pos h2] at h; cases h
  rw [if_neg h2] at h
  by_cases h3 : zbN x.x n 1 ≠ 0
  ·rw [if_pos h3] at h; exact absurd h h3
  rw [if_neg h3] at h
  rcases List.mem_cons.1 hu with rfl | hu
  ·exact ⟨by omega, by omega, by simpa using h3⟩
  ·exact zcV h u hu
structure mvRight (m : Ext) (x : Mv) : Prop where
 frm : 0 ≤ x.frm ∧ x.frm < m.locs
 to : 0 ≤ x.to ∧ x.to < m.locs
 ev : x.ev ∈ m.alpha
 g : zbN x.g m.vars.length 2 = 0
 us : zdC m.vars.length none x.us = 0
theorem zjz {m : Ext} {p : Option Mv} {x : Mv} (h : zgy m p x = 0) : mvRight m x := by
 unfold zgy at h
 by_cases h1 : x.frm < 0 ∨ x.frm ≥ m.locs ∨ x.to < 0 ∨ x.to ≥ m.locs
 ·rw [if_pos h1] at h; cases h
 rw [if_neg h1] at h
 by_cases h2 : x.ev ∉ m.alpha
 ·rw [if_pos h2] at h; cases h
 rw [if_neg h2] at h
 by_cases h3 : p.any (fun p => decide (x.frm < p.frm ∨ (x.frm = p.frm ∧ x.ev < p.ev))) = true
 ·rw [if_pos h3] at h; cases h
 rw [if_neg h3] at h
 by_cases h4 : zbN x.g m.vars.length 2 ≠ 0
 ·rw [if_pos h4] at h; exact absurd h h4
 rw [if_neg h4] at h
 exact ⟨by omega, by omega, by simpa using h2, by simpa using h4, h⟩
theorem zeV {m : Ext} : ∀ {l : List Mv} {p : Option Mv}, zdI m p l = 0 → ∀ x ∈ l, mvRight m x
 | [], _, _, x, hx => by simp at hx
 | y :: r, p, h, x, hx => by
  simp only [zdI] at h
  by_cases h1 : zgy m p y ≠ 0
  ·rw [if_pos h1] at h; exact absurd h h1
  rw [if_neg h1] at h
  rcases List.mem_cons.1 hx with rfl | hx
  ·exact zjz (by simpa using h1)
  ·exact zeV h x hx
structure extRight (m : Ext) : Prop where
 alpha : zal 32 m.alpha none = 0
 locs : 1 ≤ m.locs ∧ m.locs ≤ 64
 init : 0 ≤ m.init ∧ m.init < m.locs
 marked : zal m.locs m.marked none = 0
 vars : zbT m.vars = 0
 len : m.moves.length ≤ 256
 mv : ∀ x ∈ m.moves, mvRight m x
theorem zgk {m : Ext} (h : chk m = 0) : extRight m := by
 unfold chk at h
 by_cases h1 : zal 32 m.alpha none ≠ 0
 ·rw [if_pos h1] at h; exact absurd h h1
 rw [if_neg h1] at h
 by_cases h2 : m.locs < 1 ∨ m.locs > 64 ∨ m.init < 0 ∨ m.init ≥ m.locs
 ·rw [if_pos h2] at h; cases h
 rw [if_neg h2] at h
 by_cases h3 : zal m.locs m.marked none ≠ 0
 ·rw [if_pos h3] at h; exact absurd h h3
 rw [if_neg h3] at h
 by_cases h4 : zbT m.vars ≠ 0
 ·rw [if_pos h4] at h; exact absurd h h4
 rw [if_neg h4] at h
 by_cases h5 : m.moves.length > 256
 ·rw [if_pos h5] at h; cases h
 rw [if_neg h5] at h
 exact ⟨by simpa using h1, by omega, by omega, by simpa using h3, by simpa using h4, by omega, zeV h⟩
theorem zfe {l : List Vr} (h : zbT l = 0) : l.length ≤ 16 := by
 unfold zbT at h
 by_cases h1 : l.length > 16
 ·rw [if_pos h1] at h; cases h
 ·omega
def updR (m : Ext) (vals : List Int) : List Upd → List Int → Option (List Int)
 | [], acc => some acc
 | u :: r, acc => match m.vars[u.v.toNat]? with
  | none => none
  | some v => if (zbh u.x vals).2 ≠ 0 ∨ (zbh u.x vals).1 < v.low ∨ (zbh u.x vals).1 > v.high then none else updR m vals r (acc.set u.v.toNat (zbh u.x vals).1)
def zfr : Sta := ⟨0, []⟩
def zfy (m : Ext) (s : Sta) (ev : Int) : Sta × Bool × Int :=
 match (chs s ev m.moves 0 none false).1 with
 | none => (zfr, false, (chs s ev m.moves 0 none false).2)
 | some k => if (chs s ev m.moves 0 none false).2 ≠ 0 then (zfr, false, (chs s ev m.moves 0 none false).2) else match m.moves[k]? with
  | none => (zfr, false, 0)
  | some x => match updR m s.vals x.us s.vals with
   | none => (zfr, false, 17)
   | some acc => (⟨x.to, acc⟩, true, 0)
theorem coZ {b : Bool} {e : Int} : CoD (.tup [.agg [ii 0, .i (.v (.slice none 0 0))], bb b, ii e]) (.tup [staD zfr, bb b, ii e]) :=
 zbK (.cons (zbZ (.cons (.refl _) (.cons (zbY zaW) .nil))) (CoDL.refl _))
theorem zsP (O : List Heap) (m : Ext) (s : Sta) (ev : Int) (hok : extOk m) (hr : extRight m) (hl : s.vals.length = m.vars.length) : zan Tryz.prog 166 [extD m, staD s, ii ev] O (.tup [staD (zfy m s ev).1, bb (zfy m s ev).2.1, ii (zfy m s ev).2.2]) [] O := by
 have hv16 := zfe hr.vars
 have hlm : s.vals.length ≤ zam := by simp only [zam]; omega
 have hch := fun O => zrj O m s ev hok hlm
 have hlt := @zlD s ev m.moves 0 none false
 generalize hR : zfy m s ev = R
 unfold zfy at hR
 generalize chs s ev m.moves 0 none false = C at *
 obtain ⟨out, e⟩ := C
 simp only at hR hch hlt
 obtain ⟨sl, sv⟩ := s
 simp only at hl hR hlm
 cases out with
 | none =>
  simp only at hR
  subst hR
  refine zac Tk Tryz.func166 rfl Tryz.call166 Tryz.ntmps166 (Nat.le_of_ble_eq_true rfl) fun E => ?_
  refine zaf Tk Tryz.func166 ?_
  refine zaj Tk Tryz.func166 (hch _) rfl rfl rfl rfl rfl ?_
  refine zaF Tk Tryz.func166 rfl (fun h1 => ?_) (fun h1 => ?_)
  ·refine gcT Tk Tryz.func166 rfl ?_
   refine zao Tk (r := .tup [.agg [ii 0, .i (.v (.slice none 0 0))], bb false, ii e]) rfl rfl rfl trivial rfl rfl ?_
   exact coZ
  ·refine gcT Tk Tryz.func166 rfl ?_
   refine zao Tk (r := .tup [.agg [ii 0, .i (.v (.slice none 0 0))], bb false, ii e]) rfl rfl rfl trivial rfl rfl ?_
   exact coZ
 | some k =>
  refine zac Tk Tryz.func166 rfl Tryz.call166 Tryz.ntmps166 (Nat.le_of_ble_eq_true rfl) fun E => ?_
  refine zaf Tk Tryz.func166 ?_
  refine zaj Tk Tryz.func166 (hch _) rfl rfl rfl rfl rfl ?_
  refine zaF Tk Tryz.func166 rfl (fun h1 => ?_) (fun h1 => ?_)
  ·have h1 := bneT h1
   simp only at hR
   rw [if_pos h1] at hR
   subst hR
   refine gcT Tk Tryz.func166 rfl ?_
   refine zao Tk (r := .tup [.agg [ii 0, .i (.v (.slice none 0 0))], bb false, ii e]) rfl rfl rfl trivial rfl rfl ?_
   exact coZ
  have h1 := bneF h1
  have hk : k < m.moves.length := by have := hlt (k := k) (by simp) rfl; omega
  have hg : (m.moves.map mvI)[k]? = some (mvI m.moves[k]) := by simp [hk]
  have hx := hok.mv _ (List.getElem_mem hk)
  have hxr := hr.mv _ (List.getElem_mem hk)
  simp only at hR
  rw [if_neg (by simpa using h1), List.getElem?_eq_getElem hk] at hR
  simp only at hR
  generalize m.moves[k] = x at *
  obtain ⟨xf, xe, xt, xg, xu⟩ := x
  obtain ⟨-, hx2, hx3⟩ := hx
  simp only at hx2 hx3 hR
  have hur := zcV hxr.us
  simp only at hur
  clear hxr hch hlt
  refine gcF Tk Tryz.func166 rfl ?_
  refine zaq Tk Tryz.func166 zay rfl ?_
  refine zaA Tk (hg) ?_
  refine zaN Tk (fun _ => zh2 38 _ sv (by simp only [big]; omega)) rfl rfl rfl ?_
  refine zqo Tk ?_
  refine zj3 Tk (p := ⟨[], [(11, .box [ii xt, .osl 0 38])], none⟩) rfl rfl rfl ?_
  refine zlB Tk Tryz.func166 (by kernel_rfl) (GM.h ?_)
  refine zar Tk Tryz.func166 (hg) ?_
  refine zad ?_
  refine zag (fun x : Nat × List Int => [(3, .own 0 3 0 0), (4, .own 0 4 0 0), (6, .own 0 6 0 0), (11, .own 0 11 0 0), (43, upds xu), (44, ii xu.length), (45, ii x.1)]) (fun x => [(11, .box [ii xt, .osl 0 38]), (38, zaK x.2), (6, .box [ii 0, .i (.v (.slice none 0 0))]), (4, .box [ii sl, ints sv]), (3, .box (extC m))]) (fun _ => O) 86
   (fun x => x.1 ≤ xu.length ∧ x.2.length = m.vars.length ∧ (match updR m sv (xu.drop x.1) x.2 with | none => (zfr, false, 17) | some acc => (⟨xt, acc⟩, true, 0)) = R) (fun x => xu.length - x.1) (0, sv) ⟨Nat.zero_le _, hl, hR⟩ ⟨rfl, rfl, rfl, rfl, rfl, rfl, rfl, trivial⟩ rfl ⟨rfl, rfl, rfl, rfl, rfl, trivial⟩ rfl rfl ?_
  rintro ⟨i, acc⟩ ⟨hi, hacc, hno⟩ ih
  clear hR
  simp only at hi hacc hno
  refine zaf Tk Tryz.func166 ?_
  refine zae Tk Tryz.func166 rfl (fun h2 => ?_) (fun h2 => ?_)
  ·have h2 : i < xu.length := by simpa using h2
   have hd : xu.drop i = xu[i] :: xu.drop (i + 1) := List.drop_eq_getElem_cons h2
   have hgu : (xu.map updI)[(i : Int).toNat]? = some (updI xu[i]) := zah h2
   have hm := List.getElem_mem h2
   generalize xu[i] = u at *
   have hux := hx3 u hm
   have hur := hur u hm
   obtain ⟨uv, ux⟩ := u
   simp only at hux hur
   obtain ⟨hu0, hu1, -⟩ := hur
   have huv : uv.toNat < m.vars.length := by omega
   have hgv : (m.vars.map vrI)[uv.toNat]? = some (vrI m.vars[uv.toNat]) := by simp [huv]
   rw [hd] at hno
   simp only [updR] at hno
   rw [List.getElem?_eq_getElem huv] at hno
   simp only at hno
   generalize m.vars[uv.toNat] = v at *
   obtain ⟨vn, vl, vh, vi'⟩ := v
   simp only at hno
   have bad : ((zbh ux sv).2 ≠ 0 ∨ (zbh ux sv).1 < vl ∨ (zbh ux sv).1 > vh) → R = (zfr, false, 17) := fun h => by rw [← hno, if_pos h]
   have good : ¬ ((zbh ux sv).2 ≠ 0 ∨ (zbh ux sv).1 < vl ∨ (zbh ux sv).1 > vh) → (match updR m sv (xu.drop (i + 1)) (acc.set uv.toNat (zbh ux sv).1) with | none => (zfr, false, 17) | some acc => (⟨xt, acc⟩, true, 0)) = R := fun h => by rw [← hno, if_neg h]
   clear hno
   refine zak Tk Tryz.func166 (by omega) ?_
   refine zar Tk Tryz.func166 (hgu) ?_
   refine zaj Tk Tryz.func166 (zbJ _ ux sv hux hlm) rfl rfl rfl rfl rfl ?_
   generalize zbh ux sv = V at *
   obtain ⟨w, we⟩ := V
   simp only at bad good
   refine zak Tk Tryz.func166 (by exact ⟨hu0, hu1⟩) ?_
   refine zar Tk Tryz.func166 (hgv) ?_
   refine zaF Tk Tryz.func166 rfl (fun h3 => ?_) (fun h3 => ?_)
   ·have := bad (.inl (bneT h3))
    subst this
    repeat (first | refine gcT Tk Tryz.func166 rfl ?_ | refine gkT Tk Tryz.func166 rfl ?_ | refine skT Tk ?_ | refine gcF Tk Tryz.func166 rfl ?_ | refine gkF Tk Tryz.func166 rfl ?_ | refine skF Tk ?_)
    refine zao Tk (r := .tup [.agg [ii 0, .i (.v (.slice none 0 0))], bb false, ii 17]) rfl rfl rfl trivial rfl rfl ?_
    exact coZ
   have h3 := bneF h3
   refine zaF Tk Tryz.func166 rfl (fun h4 => ?_) (fun h4 => ?_)
   ·have := bad (.inr (.inl (of_decide_eq_true h4)))
    subst this
    refine gcT Tk Tryz.func166 rfl ?_
    refine zao Tk (r := .tup [.agg [ii 0, .i (.v (.slice none 0 0))], bb false, ii 17]) rfl rfl rfl trivial rfl rfl ?_
    exact coZ
   have h4 : ¬ w < vl := of_decide_eq_false h4
   refine zae Tk Tryz.func166 rfl (fun h5 => ?_) (fun h5 => ?_)
   ·have := bad (.inr (.inr (of_decide_eq_true h5)))
    subst this
    refine zao Tk (r := .tup [.agg [ii 0, .i (.v (.slice none 0 0))], bb false, ii 17]) rfl rfl rfl trivial rfl rfl ?_
    exact coZ
   have h5 : ¬ w > vh := of_decide_eq_false h5
   have good := good (by omega)
   refine zak Tk Tryz.func166 (by exact ⟨hu0, by rw [hacc]; exact hu1⟩) ?_
   refine zad ?_
   refine ih (i + 1, acc.set uv.toNat w) _ _ ⟨h2, by simp only [List.length_set]; exact hacc, good⟩ (by simp only; omega) ⟨rfl, rfl, rfl, rfl, rfl, rfl, congrArg ii (zaB h2 hx2), trivial⟩ rfl ⟨rfl, ?_, rfl, rfl, rfl, trivial⟩ rfl rfl
   show some (Ob.arr 3 1 acc.length ((acc.map fun x => [vi x]).set uv.toNat [vi w]) true) = _
   simp [List.map_set]
  ·have h2 : xu.length ≤ i := by simpa using h2
   rw [List.drop_eq_nil_of_le h2] at hno
   simp only [updR] at hno
   subst hno
   refine zbm (zap 38 rfl rfl) ?_
   refine zbm (zcs rfl) ?_
   refine zai Tk (r := .tup [.agg [ii xt, ints acc], bb true, ii 0]) rfl rfl rfl trivial rfl rfl ?_
   rfl
end Go.AI


namespace Go.AI
open Go.Proofs
set_option maxRecDepth 20000
def zhM (n : Int) : ByteArray := ⟨(Lib.itoa n).toArray⟩
def ptab (ty : TypeId) (fr : Nat × Nat) : Obj := .cells (Lib.pow10Tab.map fun z => Value.int .u64 z).toArray ty fr
theorem zqf {name : String} {g : Nat} {ty : TypeId} {fr : Nat × Nat} {w : World} (hg : Tryz.prog.globalNamed name = some g) (h : w.heap[g]? = some (ptab ty fr)) : Lib.TabIs Tryz.prog w name .u64 Lib.pow10Tab := by
 simp only [Lib.TabIs, World.var?, hg, Option.bind_some, h, ptab]
def zeO (g : Nat) : Prop := ∀ ty fr w, w.heap[g]? = some (ptab ty fr) → Lib.TabIs Tryz.prog w "internal/strconv.uint64pow10" .u64 Lib.pow10Tab
theorem zrF {g : Nat} (hg : zeO g) {ty : TypeId} {fr : Nat × Nat} (O : List Heap) (n : Int) (h0 : -9223372036854775808 ≤ n) (h1 : n ≤ 9223372036854775807) : zbu g (ptab ty fr) Tryz.prog 134 [ii n] O (.i (.v (.string (zhM n)))) [] O := by
 intro E K ρ w vs hw htab hrep
 obtain rfl : vs = [.int .i64 n] := by
  cases hrep with
  | cons r rs => cases rs; rw [zaI r]
 refine .inl ⟨Tryz.call134 _ _, ?_⟩
 refine (Tryz.strconv_Itoa n h0 h1 w (hg ty fr w htab.1)).mono ?_
 rintro e w' ⟨rfl, k, os, rfl⟩
 obtain ⟨ρ1, hρ1, hI⟩ := zcx hw
 obtain ⟨hI2, hst⟩ := HInv.grow (S := [] :: O) rfl hI (fun _ _ _ e => e) (fun _ h => by simp [look] at h) (ziK hI k os)
 exact ⟨_, rfl, K, ρ1, hI2, .i (.v rfl)⟩
end Go.AI


namespace Go.AI
open Go.Proofs
set_option maxRecDepth 20000
theorem zcN : ∀ (k u : Nat), u < 10 ^ (k + 1) → (Lib.decDigits u).length ≤ k + 1
 | 0, u, h => by
  unfold Lib.decDigits
  rw [dif_pos (by omega)]
  simp
 | k + 1, u, h => by
  unfold Lib.decDigits
  split
  ·simp
  ·rw [List.length_append]
   have := zcN k (u / 10) (by rw [Nat.pow_succ] at h; omega)
   simp only [List.length_cons, List.length_nil]
   omega
theorem zg3 {n : Int} (h0 : -9223372036854775808 ≤ n) (h1 : n ≤ 9223372036854775807) : (zhM n).size ≤ 21 := by
 show (Lib.itoa n).toArray.size ≤ 21
 simp only [List.size_toArray]
 unfold Lib.itoa
 split
 ·have := zcN 19 n.natAbs (by omega)
  simp only [List.length_cons]
  omega
 ·have := zcN 19 n.toNat (by omega)
  omega
def zsS : ByteArray := ⟨#[32]⟩
def keyS (loc : Int) (vals : List Int) : ByteArray := vals.foldl (fun b n => b ++ (zsS ++ zhM n)) (zhM loc)
abbrev i64B (n : Int) : Prop := -9223372036854775808 ≤ n ∧ n ≤ 9223372036854775807
end Go.AI


namespace Go.AI
open Go.Proofs
set_option maxRecDepth 20000
theorem within_iff : ∀ {l : List Vr} {xs : List Int}, within l xs = true ↔ xs.length = l.length ∧ ∀ i (h : i < l.length) (h' : i < xs.length), l[i].low ≤ xs[i] ∧ xs[i] ≤ l[i].high
 | [], [] => by simp [within]
 | [], _ :: _ => by simp [within]
 | _ :: _, [] => by simp [within]
 | v :: r, x :: ys => by
  simp only [within, Bool.and_eq_true, decide_eq_true_eq, within_iff (l := r) (xs := ys), List.length_cons, Nat.add_right_cancel_iff]
  constructor
  ·rintro ⟨⟨h1, h2⟩, h3, h4⟩
   refine ⟨h3, fun i h h' => ?_⟩
   cases i with
   | zero => exact ⟨h1, h2⟩
   | succ i => exact h4 i (by simpa using h) (by simpa using h')
  ·rintro ⟨h3, h4⟩
   exact ⟨h4 0 (by simp) (by simp), h3, fun i h h' => h4 (i + 1) (by simpa using h) (by simpa using h')⟩
theorem zgF {l : List Vr} {xs : List Int} {k : Nat} {n : Int} (h : within l xs = true) (hk : k < l.length) (hn : l[k].low ≤ n ∧ n ≤ l[k].high) : within l (xs.set k n) = true := by
 rw [within_iff] at h ⊢
 refine ⟨by simpa using h.1, fun i hi hi' => ?_⟩
 rw [List.getElem_set]
 split
 ·rename_i e; subst e; exact hn
 ·exact h.2 i hi (by simpa using hi')
theorem zep {all : List Vr} : ∀ {l : List Vr} {i : Nat}, zbf all l i = 0 → ∀ v ∈ l, (-65536 ≤ v.low ∧ v.high ≤ 65536) ∧ v.low ≤ v.init ∧ v.init ≤ v.high
 | [], _, _, v, hv => by simp at hv
 | x :: r, i, h, v, hv => by
  simp only [zbf] at h
  split at h
  ·rename_i e he
   subst h
   unfold checkVr at he
   split at he; · cases he
   split at he; · cases he
   split at he; · cases he
   split at he; · cases he
   split at he <;> cases he
  ·rename_i he
   rcases List.mem_cons.1 hv with rfl | hv
   ·unfold checkVr at he
    split at he; · cases he
    split at he; · cases he
    split at he; · cases he
    rename_i h3
    split at he; · cases he
    split at he; · cases he
    rename_i h4 h5
    simp only [checkVr.large, Bool.or_eq_true, decide_eq_true_eq, not_or] at h3
    omega
   ·exact zep h v hv
theorem znK {l : List Vr} (h : zbT l = 0) : ∀ v ∈ l, (-65536 ≤ v.low ∧ v.high ≤ 65536) ∧ v.low ≤ v.init ∧ v.init ≤ v.high := by
 unfold zbT at h
 split at h
 ·cases h
 ·exact zep h
def okS (m : Ext) (s : Sta) : Prop := (0 ≤ s.loc ∧ s.loc < m.locs) ∧ within m.vars s.vals = true
theorem zgR {m : Ext} {s : Sta} (hr : extRight m) (h : okS m s) : i64B s.loc ∧ (∀ v ∈ s.vals, i64B v) ∧ s.vals.length ≤ 16 ∧ s.vals.length = m.vars.length ∧ ∀ v ∈ s.vals, -65536 ≤ v ∧ v ≤ 65536 := by
 obtain ⟨h1, h2⟩ := h
 rw [within_iff] at h2
 have hl := hr.locs
 have hv := zfe hr.vars
 have hb : ∀ v ∈ s.vals, -65536 ≤ v ∧ v ≤ 65536 := by
  intro v hm
  obtain ⟨i, hi, rfl⟩ := List.getElem_of_mem hm
  have a := h2.2 i (by omega) hi
  have b := znK hr.vars _ (List.getElem_mem (by omega : i < m.vars.length))
  omega
 exact ⟨⟨by omega, by omega⟩, fun v hm => by have := hb v hm; exact ⟨by omega, by omega⟩, by omega, h2.1, hb⟩
theorem zk2 {m : Ext} (hr : extRight m) : okS m (zcY m) := by
 refine ⟨hr.init, within_iff.2 ⟨by simp [zcY], fun i h h' => ?_⟩⟩
 simp only [zcY, List.getElem_map]
 exact (znK hr.vars _ (List.getElem_mem h)).2
theorem znM {m : Ext} {vals : List Int} : ∀ {l : List Upd} {acc out : List Int}, updR m vals l acc = some out → within m.vars acc = true → within m.vars out = true
 | [], acc, out, h, hw => by simp only [updR, Option.some.injEq] at h; subst h; exact hw
 | u :: r, acc, out, h, hw => by
  simp only [updR] at h
  cases hu : m.vars[u.v.toNat]? with
  | none => rw [hu] at h; cases h
  | some v =>
   rw [hu] at h
   simp only at h
   split at h
   ·cases h
   ·rename_i hc
    have hk : u.v.toNat < m.vars.length := (List.getElem?_eq_some_iff.1 hu).1
    have hkv : m.vars[u.v.toNat] = v := (List.getElem?_eq_some_iff.1 hu).2
    refine znM h (zgF hw hk ?_)
    rw [hkv]
    omega
theorem zrY {m : Ext} {s : Sta} {ev : Int} (hr : extRight m) (h : okS m s) (hp : (zfy m s ev).2.1 = true) : okS m (zfy m s ev).1 := by
 unfold zfy at hp ⊢
 cases hc : (chs s ev m.moves 0 none false).1 with
 | none => rw [hc] at hp; cases hp
 | some k =>
  rw [hc] at hp
  simp only at hp ⊢
  split at hp
  ·cases hp
  ·rename_i he
   rw [if_neg he]
   cases hk : m.moves[k]? with
   | none => rw [hk] at hp; cases hp
   | some x =>
    rw [hk] at hp
    simp only at hp ⊢
    cases hu : updR m s.vals x.us s.vals with
    | none => rw [hu] at hp; cases hp
    | some acc =>
     exact ⟨(hr.mv x (List.mem_of_getElem? hk)).to, znM hu h.2⟩
structure Srch where
 sts : List Sta
 frm : List (Int × Int)
 flt : Int × Int
 kind : Int
def keyOf (s : Sta) : ByteArray := keyS s.loc s.vals
def visit (m : Ext) (i : Nat) (s : Sta) (ev : Int) (S : Srch) : Option Srch :=
 let n := zfy m s ev
 let S1 : Srch := if n.2.2 ≠ 0 ∧ S.kind = 0 then { S with kind := n.2.2, flt := (i, ev) } else S
 if n.2.1 = false ∨ (S.sts.any fun t => keyOf n.1 == keyOf t) = true then some S1 else
 if S.sts.length = 4096 then none else some { S1 with sts := S1.sts ++ [n.1], frm := S1.frm ++ [((i : Int), ev)] }
abbrev zot (l : List Sta) : Ob := .arr 196 2 l.length (l.map staI) true
end Go.AI


namespace Go.AI
open Go.Proofs
set_option maxRecDepth 20000
structure Good (m : Ext) (S : Srch) : Prop where
 len : S.sts.length ≤ 4096
 ok : ∀ s ∈ S.sts, okS m s
 fl : S.frm.length = S.sts.length
end Go.AI




namespace Go.AI
open Go.Proofs
def over (c : Array Value) : Nat → List Value → Array Value
 | _, [] => c
 | o, v :: r => over (c.setIfInBounds o v) (o + 1) r
theorem ziv : ∀ (vs : List Value) (c : Array Value) (o : Nat), (over c o vs).size = c.size
 | [], c, o => rfl
 | v :: r, c, o => by simp only [over, ziv r, Array.size_setIfInBounds]
theorem zle : ∀ (vs : List Value) (c : Array Value) (o j : Nat), o + vs.length ≤ c.size → (over c o vs)[j]? = if o ≤ j ∧ j < o + vs.length then vs[j - o]? else c[j]?
 | [], c, o, j, _ => by
  simp only [over, List.length_nil, Nat.add_zero]
  rw [if_neg (by omega)]
 | v :: r, c, o, j, h => by
  simp only [List.length_cons] at h
  simp only [over]
  rw [zle r _ _ _ (by simp only [Array.size_setIfInBounds]; omega)]
  simp only [List.length_cons]
  by_cases h1 : o + 1 ≤ j ∧ j < o + 1 + r.length
  ·rw [if_pos h1, if_pos (by omega), show j - o = (j - (o + 1)) + 1 by omega]
   simp
  ·rw [if_neg h1]
   by_cases h2 : j = o
   ·subst h2
    rw [if_pos (by omega)]
    simp only [Nat.sub_self, List.getElem?_cons_zero, Array.getElem?_setIfInBounds]
    rw [if_pos trivial, if_pos (by omega)]
   ·rw [if_neg (by omega), Array.getElem?_setIfInBounds, if_neg (by omega)]
theorem zd2 {b : Nat} : ∀ (vs : List Value) (o : Nat) (w : World) (c : Array Value) (ty : TypeId) (fr : Nat × Nat), w.heap[b]? = some (.cells c ty fr) →
  (w.setCells b o vs).heap[b]? = some (.cells (over c o vs) ty fr) ∧ (∀ b', b' ≠ b → (w.setCells b o vs).heap[b']? = w.heap[b']?) ∧ (w.setCells b o vs).heap.size = w.heap.size ∧
   (w.setCells b o vs).tape = w.tape ∧ (w.setCells b o vs).os = w.os ∧ (w.setCells b o vs).output = w.output
 | [], o, w, c, ty, fr, h => ⟨h, fun _ _ => rfl, rfl, rfl, rfl, rfl⟩
 | v :: r, o, w, c, ty, fr, h => by
  have h1 : (w.setCell ⟨b, o, none⟩ v).heap[b]? = some (.cells (c.setIfInBounds o v) ty fr) := by
   simp [World.setCell, Array.getElem?_modify, h]
  have h2 : ∀ b', b' ≠ b → (w.setCell ⟨b, o, none⟩ v).heap[b']? = w.heap[b']? := fun b' hb => by
   simp only [World.setCell, Array.getElem?_modify]
   rw [if_neg (fun e => hb e.symm)]
  obtain ⟨a1, a2, a3, a4, a5, a6⟩ := zd2 r (o + 1) (w.setCell ⟨b, o, none⟩ v) _ ty fr h1
  refine ⟨a1, fun b' hb => (a2 b' hb).trans (h2 b' hb), a3.trans (by simp [World.setCell]), a4, a5, a6⟩
theorem zfK {K : Kn} : ∀ {vs : List Value} {l : List Int}, RepL K vs (l.map fun x => [vi x]).flatten → vs = l.map (Value.int .i64)
 | _, [], .nil => rfl
 | _, x :: r, h => by
  simp only [List.map_cons, List.flatten_cons, List.cons_append, List.nil_append] at h
  cases h with
  | cons a b =>
   cases a with
   | v e => rw [zfK b]; rfl
theorem zf5 {K : Kn} : ∀ (l : List Int), RepL K (l.map (Value.int .i64)) (l.map fun x => [vi x]).flatten
 | [] => .nil
 | x :: r => by
  simp only [List.map_cons, List.flatten_cons, List.cons_append, List.nil_append]
  exact .cons (.v rfl) (zf5 r)
end Go.AI


namespace Go.AI
open Go.Proofs
theorem zju {w : World} {b : Nat} {d : Array Int} {c : Array Value} {ty : TypeId} {fr : Nat × Nat} (h : w.heap[b]? = some (.cells c ty fr)) :
  (Sort.putRow (Value.int .i64) w b 0 d).heap[b]? = some (.cells (Sort.putCells (Value.int .i64) 0 d c) ty fr) ∧ ∀ b', b' ≠ b → (Sort.putRow (Value.int .i64) w b 0 d).heap[b']? = w.heap[b']? := by
 unfold Sort.putRow Sort.mapBlock
 refine ⟨?_, fun b' hb => ?_⟩
 ·simp [Array.getElem?_modify, h, Sort.onCells]
 ·simp only [Array.getElem?_modify]
  rw [if_neg (fun e => hb e.symm)]
theorem zsU (O : List Heap) (d nm : Nat) (l : List Int) (hpos : 0 < l.length) (hl : l.length < 4611686018427387904) (ho : zaa O d nm = some (zaK l)) : zan Tryz.prog 97 [.osl d nm] O (.tup []) [] (setAt O d nm (zaK (zcC l))) := by
 intro E K ρ w vs hw hrep
 obtain rfl : vs = [.slice (ρ d nm).base l.length (ρ d nm).cap] := by
  cases hrep with
  | cons r rs =>
   cases rs
   rw [zeD (es := 1) (len := l.length) r (by simp [shape, ho, Ob.sh])]
 obtain ⟨ρ1, hρ1, hI⟩ := zcx hw
 have ho1 : zaa (([] : Heap) :: O) (d + 1) nm = some (zaK l) := zdD ho
 have hown1 := zdG (s := { σ := [], S := [] :: O, n := 0 }) hI ho1
 have hsl := zd1 l
 refine .inl ⟨Tryz.call97 _ _, ?_⟩
 obtain ⟨h1, h2, h3, h4, h5⟩ := hown1
 have hloc : ρ1 (d + 1) nm = ρ d nm := by rw [hρ1]
 rw [hloc] at h3 h4 h5
 rcases h5 with ⟨h5, h6⟩ | ⟨h5, c, h6, h7, h8, h9, h10, h11⟩
 ·exfalso; omega
 ·have hcl : c.toList.take l.length = l.map (Value.int .i64) := by
   rw [Nat.mul_one] at h8
   exact zfK h8
  have hsz : l.length ≤ c.size := by rw [h7, Nat.mul_one]; exact h3
  have hblk : (ρ d nm).block < w.heap.size := (Array.getElem?_eq_some_iff.1 h6).1
  rw [h5]
  refine (Tryz.slices_Sort_int (ρ d nm).block 0 (ρ d nm).cap l w (fun j hj => ⟨?_, ?_⟩) hblk hl).mono ?_
  ·have hj : j < l.length := by simpa using hj
   rw [Nat.zero_add, cell_of_heap h6]
   have : (c.toList.take l.length)[j]? = some (.int .i64 l[j]) := by
    rw [hcl, List.getElem?_map, List.getElem?_eq_getElem hj]
    rfl
   rw [List.getElem?_take, if_pos hj] at this
   have e : l.toArray[j]! = l[j] := by simp [hj]
   rw [e]
   simpa using this
  ·simp [World.frozen?, h6]
  ·rintro e w' ⟨rfl, n, os, rfl⟩
   have hh : (Sort.ahead w n).heap[(ρ d nm).block]? = some (.cells c 3 (0, 0)) := h6
   obtain ⟨a1, a2⟩ := zju (d := (zcC l).toArray) hh
   have hbk : zas (ρ1 (d + 1) nm) (zaK l) := by rw [hloc]; show _ ≠ none; rw [h5]; simp
   have hfin : HInv (.of K ρ w) K ρ1 (setAt ([] :: O) (d + 1) nm (zaK (zcC l))) (Sort.putRow (Value.int .i64) (Sort.ahead w n) (ρ d nm).block 0 (zcC l).toArray) := by
    refine hI.put ho1 (by simp [Ob.sh, hsl]) hbk (by rw [hloc]; show _ ≠ none; rw [h5]; simp) (by simp [Sort.ahead]) (fun b hb => a2 b (by rw [← hloc]; exact hb)) ⟨rfl, rfl, rfl⟩ (fun o x hx => ?_) ?_
    ·rw [hloc] at hx ⊢
     rw [h9 rfl] at hx; cases hx
    ·rw [hloc]
     refine ⟨by simp [hsl], by simp, by simpa [hsl] using h3, h4, .inr ⟨h5, _, a1, by simp [Sort.putCells, h7], ?_, fun _ => h9 rfl, fun o ho => by rw [h9 rfl o], fun h => by cases h⟩⟩
     have e : (Sort.putCells (Value.int .i64) 0 (zcC l).toArray c).toList.take ((zcC l).length * 1) = (zcC l).map (Value.int .i64) := by
      apply List.ext_getElem?
      intro j
      rw [List.getElem?_take, Nat.mul_one]
      by_cases hj : j < (zcC l).length
      ·rw [if_pos hj]
       have hjc : j < c.size := by omega
       simp [Sort.putCells, hj, hjc, Array.getElem?_mapIdx]
      ·rw [if_neg hj]
       simp at hj
       simp [hj]
     rw [e]
     exact zf5 _
   obtain ⟨hI2, hst⟩ := HInv.grow (S := setAt ([] :: O) (d + 1) nm (zaK (zcC l))) rfl hfin (fun _ _ _ e => e) (fun _ h => by simp [look] at h) (ziK hfin 0 os)
   exact ⟨_, rfl, K, ρ1, hI2, .tup .nil⟩
end Go.AI


namespace Go.AI
open Go.Proofs
set_option maxRecDepth 20000
end Go.AI


namespace Go.AI
open Go.Proofs
set_option maxRecDepth 20000
end Go.AI


namespace Go.AI
open Go.Proofs
set_option maxRecDepth 20000
def tgtE (es : List Edg) (est : List Int) (ev : Int) : List Int := (es.filter fun e => e.2.1 == ev && decide (e.1 ∈ est)).map fun e => e.2.2
def nxt (es : List Edg) (p : Int → Bool) (n : Nat) (est : List Int) (ev : Int) : List Int := clo es p n (tgtE es est ev)
end Go.AI


namespace Go.AI
open Go.Proofs
set_option maxRecDepth 20000
abbrev dp3 (p : Bool) : D := bif p then .own 0 3 0 0 else .i (.v (.pointer none))
theorem ztw (p : Bool) : dp3 p = .i (.v (.pointer none)) ∨ dp3 p = .own 0 3 0 0 := by cases p; exact .inl rfl; exact .inr rfl
end Go.AI


namespace Go.AI
open Go.Proofs
set_option maxRecDepth 20000
section
variable {P : Program} {T : TT} {f : FuncId} {fn : Func} {code : Code}
end
section
variable {c : Cx} {s : St} {k : List Item} {ops : Array Oper} {rest : List Nat} {o : Oper}
end
end Go.AI


namespace Go.AI
open Go.Proofs
set_option maxRecDepth 20000
abbrev zcR (l : List Edg) : Ob := .arr 117 3 l.length (l.map edgI) true
theorem zfQ (l : List Edg) (e : Edg) : Ob.arr 117 3 (l.length + 1) (l.map edgI ++ [edgI e]) true = zcR (l ++ [e]) := by simp
abbrev zov (l : List (List Int)) : Ob := .arr 31 1 l.length (l.map fun r => [zb2 r]) true
theorem zou (l : List (List Int)) (r : List Int) : Ob.arr 31 1 (l.length + 1) ((l.map fun r => [zb2 r]) ++ [[zb2 r]]) true = zov (l ++ [r]) := by simp
def subs : Nat → List (List Int)
 | 0 => [[]]
 | n + 1 => subs n ++ (subs n).map (· ++ [(n : Int)])
theorem zc3 {α : Type} [DecidableEq α] : ∀ {l m : List α}, l.Nodup → (∀ x ∈ l, x ∈ m) → l.length ≤ m.length
 | [], _, _, _ => Nat.zero_le _
 | a :: l, m, h, hs => by
  have ha := hs a (by simp)
  unfold List.Nodup at h
  rw [List.pairwise_cons] at h
  have h1 := zc3 (l := l) (m := m.erase a) h.2 fun x hx => (List.mem_erase_of_ne (fun e => h.1 x hx e.symm)).2 (hs x (by simp [hx]))
  rw [List.length_erase_of_mem ha] at h1
  have := List.length_pos_of_mem ha
  simp only [List.length_cons]
  omega
structure estsOk (n : Nat) (sts : List (List Int)) : Prop where
 nd : sts.Nodup
 el : ∀ s ∈ sts, s ∈ subs n ∧ s ≠ [] ∧ s.length ≤ n ∧ ∀ x ∈ s, 0 ≤ x ∧ x < (n : Int)
theorem zpv (a : ByteArray) : (a == a) = true := (znf a a).2 rfl
abbrev zqp (l : List (List Int)) : I := .sl 1 l.length (l.map fun r => [zb2 r])
abbrev zmW (a : Aut) (on : List Int) : List Int := a.alpha.filter fun x => decide (x ∈ on)
end Go.AI


namespace Go.AI
open Go.Proofs
set_option maxRecDepth 20000
structure smallA (a : Aut) : Prop where
 ed : a.edges.length ≤ 1000000
 al : a.alpha.length ≤ 1000000
 mkd : a.marked.length ≤ 1000000
theorem zpk {a : Aut} (h : chkA a = 0) : (∀ e ∈ a.edges, 0 ≤ e.1 ∧ e.1 < a.states) ∧ (∀ e ∈ a.edges, 0 ≤ e.2.2 ∧ e.2.2 < a.states) ∧ ∀ e ∈ a.edges, e.2.1 ∈ a.alpha := by
 obtain ⟨_, _, _, c4⟩ := zba h
 obtain ⟨_, eb, _⟩ := za8 c4
 exact ⟨fun e he => (eb e he).1, fun e he => (eb e he).2.1, fun e he => (eb e he).2.2⟩
end Go.AI


namespace Go.AI
open Go.Proofs
open Go.Shelf Go.RowKit Go.Lib Go.Sort
theorem zhd (l : List Int) : (Lib.compact l).length ≤ l.length := Lib.compact_length_le l
set_option maxRecDepth 20000 in
set_option maxHeartbeats 1000000 in
theorem ziZ {c : Cx} (hP : c.P = Tryz.prog) {s : St} {o : Oper} {t nm : Nat} {l : List Int} {H : Heap} {O : List Heap} (hpos : 0 < l.length) (ht : o.dst = some t) (hn : t < s.n) (hS : s.S = H :: O) (ha : look H nm = some (zaK l)) :
  Wp c o s 140 [.osl 0 nm] { σ := (t, .osl 0 nm) :: zdy nm s.σ, S := ((nm, zaK (Lib.compact l)) :: zbp nm H) :: O, n := s.n } := by
 intro K ρ a w hinv ⟨vs, hrun, hrep⟩ next Qe hnext
 have hh := hinv.h
 rw [hS] at hh hrep
 have hoa : zaa (H :: O) 0 nm = some (zaK l) := by simpa [zaa] using ha
 have e0 : (fun d n => ρ (0 + d) n) = ρ := by funext d n; rw [Nat.zero_add]
 have s0 : ∀ S : List Heap, shape (S.drop 0) = shape S := fun S => by rw [List.drop_zero]
 have hwa := hh.own _ _ _ hoa
 rw [e0, s0] at hwa
 have hsha : shape (H :: O) 0 nm = some (.arr 1 l.length) := by simp [shape, hoa, Ob.sh]
 obtain ⟨rfl⟩ : vs = [.slice (ρ 0 nm).base l.length (ρ 0 nm).cap] := by
  cases hrep with
  | cons h1 h2 => cases h2; rw [zeD h1 hsha]
 obtain ⟨h1, h2, h3, h4, h5⟩ := hwa
 rcases h5 with ⟨h5, _⟩ | ⟨h5, cur, h6, h7, h8, h9, h10, h11⟩
 ·omega
 rw [h5, hP] at hrun
 have hent : (callFunc 140 #[.slice (some ⟨(ρ 0 nm).block, 0, none⟩) l.length (ρ 0 nm).cap]).run Tryz.prog w = .ok (.enter 140 #[.slice (some ⟨(ρ 0 nm).block, 0, none⟩) l.length (ρ 0 nm).cap]) w := Tryz.call140 _ _
 simp only [Oper.wp, hP, hrun, hent, Oper.upon]
 have h4' : (ρ 0 nm).cap ≤ 9223372036854775807 := h4
 have hcl : cur.toList.take l.length = l.map (Value.int .i64) := by
  rw [Nat.mul_one] at h8
  exact zfK h8
 have hsz : l.length ≤ cur.size := by rw [h7, Nat.mul_one]; exact h3
 have hle := zhd l
 refine (Tryz.slices_Compact_int_cells (ρ 0 nm).block 0 l.length (ρ 0 nm).cap l w (Nat.le_refl _) (by omega) h3 (fun j hj => ?_) (fun j hj => ?_)).mono ?_
 ·rw [Nat.zero_add, Go.AI.cell_of_heap h6]
  have : (cur.toList.take l.length)[j]? = some (.int .i64 (l.getD j 0)) := by
   rw [hcl, List.getElem?_map, List.getElem?_eq_getElem hj, List.getD_eq_getElem?_getD, List.getElem?_eq_getElem hj]
   rfl
  rw [List.getElem?_take] at this
  rw [if_pos hj] at this
  simpa using this
 ·simp [World.frozen?, h6]
 rintro e w' ⟨rfl, q, rfl⟩
 rw [List.take_length]
 generalize hL : Lib.compact l = L at *
 generalize hV : (L ++ List.replicate (l.length - L.length) 0).map (Value.int .i64) = V
 have hVl : V.length = l.length := by rw [← hV]; simp; omega
 have hgd : (w.drewN q).heap[(ρ 0 nm).block]? = some (.cells cur 3 (0, 0)) := h6
 obtain ⟨a1, a2, a3, a4, a5, a6⟩ := zd2 V 0 (w.drewN q) cur 3 (0, 0) hgd
 have hap : Apnd K w ((w.drewN q).setCells (ρ 0 nm).block 0 V) (ρ 0 nm) (ρ 0 nm) := by
  refine ⟨Nat.le_of_eq a3.symm, fun b _ hne => ?_, ⟨a4, a5, a6⟩, fun e => .inr ⟨e, rfl⟩⟩
  have hb : b ≠ (ρ 0 nm).block := hne (by rw [h5]; simp)
  exact a2 b hb
 have hrow : RepL K ((over cur 0 V).toList.take (L.length * 1)) (L.map fun x => [vi x]).flatten := by
  have e1 : (over cur 0 V).toList.take (L.length * 1) = L.map (Value.int .i64) := by
   apply List.ext_getElem?
   intro j
   rw [List.getElem?_take, Nat.mul_one]
   by_cases hj : j < L.length
   ·rw [if_pos hj, Array.getElem?_toList, zle _ _ _ _ (by rw [hVl]; omega), if_pos (by omega), ← hV, Nat.sub_zero, List.map_append, List.getElem?_append_left (by simpa using hj)]
   ·rw [if_neg hj, List.getElem?_eq_none (by simpa using hj)]
  rw [e1]
  exact zf5 _
 have hown : ∀ (ρ' : Nat → Nat → Loc) (sh' : Nat → Nat → Option Sh), OwnAt K ρ' sh' ((w.drewN q).setCells (ρ 0 nm).block 0 V) (ρ 0 nm) (zaK L) := fun ρ' sh' =>
  ⟨fun d hd => by obtain ⟨x, _, rfl⟩ := List.mem_map.1 hd; rfl, by simp, by omega, h4, .inr ⟨h5, _, a1, by rw [ziv, h7], hrow, fun _ => h9 rfl, fun o ho => h9 rfl o, fun e => by cases e⟩⟩
 obtain ⟨hI3, hbut⟩ := hh.renew (nm := nm) (dst := nm) ha (by rw [zbl]; simp) hap Iff.rfl (ob' := zaK L) Iff.rfl (fun _ => h9 rfl) hown
 have hsh3 : shape (((nm, zaK L) :: zbp nm H) :: O) 0 nm = some (.arr 1 L.length) := by simp [shape, zaa, zab, Ob.sh]
 refine hnext _ _ K (upd ρ nm (ρ 0 nm)) ?_
 rw [ht]
 refine ⟨hI3, hinv.defers, by simp [Act.put]; exact hinv.size, fun t' d' e' => ?_⟩
 rw [zch (by rw [hinv.size]; exact hn)]
 simp only [zab] at e'
 split at e'
 ·rename_i e2
  simp only [Option.some.injEq] at e'
  subst e'
  rw [if_pos e2]
  have g2 := RepD.osl (K := K) (ρ := upd ρ nm (ρ 0 nm)) hsh3
  rw [zaL, h5] at g2
  exact g2
 ·rename_i e2
  rw [if_neg e2]
  rw [zb7] at e'
  cases hls : look s.σ t' with
  | none => simp [hls] at e'
  | some d0 =>
   simp only [hls, Option.map_some, Option.some.injEq] at e'
   subst e'
   have hr := hinv.slots _ _ hls
   rw [hS] at hr
   exact hr.kill hbut
end Go.AI


namespace Go.AI
open Go.Proofs
set_option maxRecDepth 20000
def lowP (on un : List Int) (only : Bool) (ev : Int) : Bool := !decide (ev ∈ on) && (!only || decide (ev ∈ un))
end Go.AI


namespace Go.AI
open Go.Proofs
set_option maxRecDepth 20000
section
variable {c : Cx} {s : St} {k : List Item} {ops : Array Oper} {rest : List Nat} {o : Oper} {E0 : Env} {H0 H1 H : Heap} {O : List Heap}
end
end Go.AI


namespace Go.AI
open Go.Proofs
set_option maxRecDepth 20000
end Go.AI


namespace Go.AI
open Go.Proofs
set_option maxRecDepth 20000
end Go.AI


namespace Go.AI
open Go.Proofs
set_option maxRecDepth 20000
def keyL : List UInt8 → List Int → List UInt8
 | T, [] => T
 | T, n :: r => keyL (T ++ (zhM n).data.toList ++ [32]) r
end Go.AI


namespace Go.AI
open Go.Proofs
def numB (x : Int) : List UInt8 := (zhM x).data.toList
def decN (l : List UInt8) : Int := l.foldl (fun a c => a * 10 + ((c.toNat : Int) - 48)) 0
theorem zs8 : ((List.range 64).all fun (k : Nat) => decide (decN (numB (k : Int)) = (k : Int)) && (numB (k : Int)).all fun c => decide (48 ≤ c.toNat ∧ c.toNat ≤ 57)) = true := by kernel_rfl
theorem zjy {x : Int} (h : 0 ≤ x ∧ x < 64) : decN (numB x) = x ∧ ∀ c ∈ numB x, 48 ≤ c.toNat ∧ c.toNat ≤ 57 := by
 have h1 := List.all_eq_true.1 zs8 x.toNat (List.mem_range.2 (by omega))
 simp only [Bool.and_eq_true, decide_eq_true_eq, List.all_eq_true] at h1
 have e : ((x.toNat : Nat) : Int) = x := by omega
 rw [e] at h1
 exact h1
def encL (l : List Int) : List UInt8 := l.flatMap fun x => numB x ++ [32]
theorem zfk : ∀ (l : List Int) (T : List UInt8), keyL T l = T ++ encL l
 | [], T => by simp [keyL, encL]
 | x :: r, T => by
  rw [keyL, zfk r]
  simp [encL, numB]
theorem zeX {c : UInt8} (hc : ¬ (48 ≤ c.toNat ∧ c.toNat ≤ 57)) : ∀ {a b u v : List UInt8}, (∀ x ∈ a, 48 ≤ x.toNat ∧ x.toNat ≤ 57) → (∀ x ∈ b, 48 ≤ x.toNat ∧ x.toNat ≤ 57) → a ++ c :: u = b ++ c :: v → a = b ∧ u = v
 | [], [], u, v, _, _, h => by simpa using h
 | [], y :: b, u, v, _, hb, h => by
  simp only [List.nil_append, List.cons_append, List.cons.injEq] at h
  exact absurd (h.1 ▸ hb y (by simp)) hc
 | x :: a, [], u, v, ha, _, h => by
  simp only [List.nil_append, List.cons_append, List.cons.injEq] at h
  exact absurd (h.1 ▸ ha x (by simp)) hc
 | x :: a, y :: b, u, v, ha, hb, h => by
  simp only [List.cons_append, List.cons.injEq] at h
  obtain ⟨h1, h2⟩ := zeX hc (a := a) (b := b) (fun x hx => ha x (by simp [hx])) (fun x hx => hb x (by simp [hx])) h.2
  exact ⟨by rw [h.1, h1], h2⟩
theorem zry {x : Int} (h : 0 ≤ x ∧ x < 64) {u v : List UInt8} (e : numB x ++ 32 :: u = 59 :: v) : False := by
 cases hn : numB x with
 | nil => rw [hn] at e; simp at e
 | cons c r =>
  rw [hn] at e
  simp only [List.cons_append, List.cons.injEq] at e
  have := (zjy h).2 c (by rw [hn]; simp)
  rw [e.1] at this
  exact absurd this (by decide)
theorem zgh : ∀ {a b : List Int} {u v : List UInt8}, (∀ x ∈ a, 0 ≤ x ∧ x < 64) → (∀ x ∈ b, 0 ≤ x ∧ x < 64) → encL a ++ 59 :: u = encL b ++ 59 :: v → a = b ∧ u = v
 | [], [], u, v, _, _, h => by simpa [encL] using h
 | [], y :: b, u, v, _, hb, h => by
  refine (zry (x := y) (hb y (by simp)) (u := encL b ++ 59 :: v) (v := u) ?_).elim
  simp only [encL, List.flatMap_nil, List.nil_append, List.flatMap_cons, List.append_assoc, List.singleton_append] at h
  rw [h]; rfl
 | x :: a, [], u, v, ha, _, h => by
  refine (zry (x := x) (ha x (by simp)) (u := encL a ++ 59 :: u) (v := v) ?_).elim
  simp only [encL, List.flatMap_nil, List.nil_append, List.flatMap_cons, List.append_assoc, List.singleton_append] at h
  rw [← h]; rfl
 | x :: a, y :: b, u, v, ha, hb, h => by
  simp only [encL, List.flatMap_cons, List.append_assoc, List.singleton_append] at h
  have hx := zjy (ha x (by simp))
  have hy := zjy (hb y (by simp))
  obtain ⟨h1, h2⟩ := zeX (c := 32) (by decide) hx.2 hy.2 h
  obtain ⟨h3, h4⟩ := zgh (a := a) (b := b) (fun x hx => ha x (by simp [hx])) (fun x hx => hb x (by simp [hx])) h2
  have e : x = y := by rw [← hx.1, ← hy.1, h1]
  exact ⟨by rw [e, h3], h4⟩
section
variable {S : Type} [DecidableEq S]
def bvis (nx : S → Int → S) (ok : S → Bool) (x : S × List Int) : List Int → List (S × List Int) → List (S × List Int)
 | [], l => l
 | ev :: r, l => bvis nx ok x r (if ok (nx x.1 ev) = true ∧ ∀ z ∈ l, z.1 ≠ nx x.1 ev then l ++ [(nx x.1 ev, x.2 ++ [ev])] else l)
def bsr (nx : S → Int → S) (ok : S → Bool) (evs : S → List Int) (bad : S → Bool) : Nat → Nat → List (S × List Int) → Option (S × List Int)
 | 0, _, _ => none
 | f + 1, i, l => match l[i]? with
  | none => none
  | some x => if bad x.1 = true then some x else bsr nx ok evs bad f (i + 1) (bvis nx ok x (evs x.1) l)
structure bOk (V : List S) (l : List (S × List Int)) : Prop where
 nd : (l.map (·.1)).Nodup
 el : ∀ z ∈ l, z.1 ∈ V
 wl : ∀ (j : Nat) z, l[j]? = some z → z.2.length ≤ j
end
end Go.AI


namespace Go.AI
open Go.Proofs
set_option maxRecDepth 20000
end Go.AI


namespace Go.AI
open Go.Proofs
set_option maxRecDepth 20000
abbrev zgX (a : Aut) (l : List Int) : Bool := l.any fun x => decide (x ∈ a.marked)
end Go.AI


namespace Go.AI
open Go.Proofs
set_option maxRecDepth 20000
end Go.AI


namespace Go.AI
open Go.Proofs
set_option maxRecDepth 20000
end Go.AI


namespace Go.AI
open Go.Proofs
set_option maxRecDepth 20000
end Go.AI


namespace Go.AI
section
variable {c : Cx} {ops : Array Oper} {O : List Heap} {n : Nat} {F : SH → List Pl → Prop}
end
end Go.AI


namespace Go.AI
open Go.Proofs
set_option maxRecDepth 20000
def evC (es : List Edg) (s : Int) : List Int := (es.filter fun e => e.1 == s).map fun e => e.2.1
end Go.AI


namespace Go.AI
open Go.Proofs
set_option maxRecDepth 20000
end Go.AI


namespace Go.AI
open Go.Proofs
set_option maxRecDepth 20000
def nxtL (es : List Edg) (p : Int → Bool) (n : Nat) (l : List Int) (obs : List Int) : List Int := obs.foldl (nxt es p n) l
end Go.AI


namespace Go.AI
open Go.Proofs
inductive FrzA (nm : Nat) (d : I) : List D → List D → Prop
 | nil : FrzA nm d [] []
 | i {x : I} {l m : List D} : FrzA nm d l m → FrzA nm d (.i x :: l) (.i x :: m)
 | osl {l m : List D} : FrzA nm d l m → FrzA nm d (.osl 0 nm :: l) (.i d :: m)
end Go.AI


namespace Go.AI
open Go.Proofs
set_option maxRecDepth 20000
end Go.AI


namespace Go.AI
open Go.Proofs
set_option maxRecDepth 20000
end Go.AI


namespace Go.AI
open Go.Proofs
set_option maxRecDepth 100000
end Go.AI


namespace Go.AI
open Go.Proofs
set_option maxRecDepth 20000
structure gAut (a : Aut) (n : Nat) : Prop where
 st : a.states = n
 sm : smallA a
 c : chkA a = 0
end Go.AI


namespace Go.AI
open Go.Proofs
set_option maxRecDepth 20000
end Go.AI


namespace Go.AI
open Go.Proofs
set_option maxRecDepth 20000
end Go.AI


namespace Go.AI
open Go.Proofs
set_option maxRecDepth 20000
end Go.AI


namespace Go.AI
open Go.Proofs
set_option maxRecDepth 20000
section
variable {S : Type} [DecidableEq S]
end
end Go.AI


namespace Go.AI
section
variable {S : Type} [DecidableEq S]
end
section
variable {S : Type} [DecidableEq S]
end
section
variable {S T : Type} [DecidableEq S] [DecidableEq T]
end
end Go.AI


namespace Go.AI
open Go.Proofs
set_option maxRecDepth 20000
end Go.AI


namespace Go.AI
open Go.Proofs
set_option maxRecDepth 20000
theorem ze1 {n : Int} : ∀ {l : List Int} {y : Int}, zal n l (some y) = 0 → y + 1 ≤ n → (l.length : Int) ≤ n - 1 - y
 | [], y, _, h => by simp only [List.length_nil]; omega
 | x :: r, y, h, hy => by
  simp only [zal] at h
  by_cases h1 : x < 0 ∨ x ≥ n
  ·rw [if_pos h1] at h; exact absurd h (by decide)
  rw [if_neg h1] at h
  by_cases h2 : (some y).any (x ≤ ·) = true
  ·rw [if_pos h2] at h; exact absurd h (by decide)
  rw [if_neg h2] at h
  have hxy : y < x := by simpa using h2
  have := ze1 h (by omega)
  simp only [List.length_cons]
  omega
theorem zbt {n : Int} (hn : 0 ≤ n) : ∀ {l : List Int}, zal n l none = 0 → (l.length : Int) ≤ n
 | [], _ => by simpa using hn
 | x :: r, h => by
  simp only [zal] at h
  by_cases h1 : x < 0 ∨ x ≥ n
  ·rw [if_pos h1] at h; exact absurd h (by decide)
  rw [if_neg h1] at h
  have h' : zal n r (some x) = 0 := by simpa using h
  have := ze1 h' (by omega)
  simp only [List.length_cons]
  omega
theorem zbL {n : Int} : ∀ {l : List Int} {p : Option Int}, l.Pairwise (· < ·) → (∀ x ∈ l, 0 ≤ x ∧ x < n) → (∀ y, p = some y → ∀ x ∈ l, y < x) → zal n l p = 0
 | [], _, _, _, _ => rfl
 | x :: r, p, hs, hr, hp => by
  simp only [zal]
  have h1 := hr x (by simp)
  rw [if_neg (by omega), if_neg]
  ·rw [List.pairwise_cons] at hs
   refine zbL hs.2 (fun y hy => hr y (by simp [hy])) (fun y e z hz => ?_)
   simp only [Option.some.injEq] at e
   subst e
   exact hs.1 z hz
  ·cases p with
   | none => simp
   | some y =>
    have := hp y rfl x (by simp)
    simp only [Option.any_some, decide_eq_true_eq]
    omega
end Go.AI


namespace Go.AI
open Go.Proofs
set_option maxRecDepth 20000
abbrev zBox : Ob := .box [.i (.v (.slice none 0 0)), ii 0, .i (.v (.slice none 0 0)), .i (.v (.slice none 0 0))]
def cOf (es : List Edg) (F : List Int) (k : Nat) (s ev : Int) : Option Edg := if 0 ≤ stp3 es s ev then some ((k : Int), ev, idxI (stp3 es s ev) F 0) else none
def cMk (F marked : List Int) (i : Nat) : List Int := ((List.range i).filter fun k => match F[k]? with
 | none => false
 | some s => decide (s ∈ marked)).map fun (k : Nat) => (k : Int)
def cEd (es : List Edg) (F al : List Int) (i : Nat) : List Edg := (List.range i).flatMap fun k => match F[k]? with
 | none => []
 | some s => al.filterMap (cOf es F k s)
def canR (a : Aut) (F : List Int) : Aut := ⟨a.alpha, F.length, cMk F a.marked F.length, cEd a.edges F a.alpha F.length⟩
theorem zro {F marked : List Int} {i : Nat} {s : Int} (h : F[i]? = some s) : cMk F marked (i + 1) = cMk F marked i ++ (if s ∈ marked then [(i : Int)] else []) := by
 unfold cMk
 rw [List.range_succ, List.filter_append, List.map_append]
 congr 1
 simp only [List.filter_cons, List.filter_nil, h]
 by_cases hm : s ∈ marked <;> simp [hm]
theorem zrp {es : List Edg} {F al : List Int} {i : Nat} {s : Int} (h : F[i]? = some s) : cEd es F al (i + 1) = cEd es F al i ++ al.filterMap (cOf es F i s) := by
 unfold cEd
 rw [List.range_succ, List.flatMap_append]
 simp only [List.flatMap_cons, List.flatMap_nil, List.append_nil, h]
theorem zgc {α β : Type} {f : α → List β} {N : Nat} : ∀ {l : List α}, (∀ x ∈ l, (f x).length ≤ N) → (l.flatMap f).length ≤ N * l.length
 | [], _ => by simp
 | x :: r, h => by
  have h1 := h x (by simp)
  have h2 := zgc (l := r) fun y hy => h y (by simp [hy])
  simp only [List.flatMap_cons, List.length_append, List.length_cons, Nat.mul_succ]
  omega
theorem zpq {es : List Edg} {F al : List Int} {i : Nat} (h : al.length ≤ 32) : (cEd es F al i).length ≤ 32 * i := by
 unfold cEd
 refine Nat.le_trans (zgc (N := 32) fun k _ => ?_) (by rw [List.length_range]; exact Nat.le_refl _)
 split
 ·simp
 ·exact Nat.le_trans (List.length_filterMap_le _ _) h
theorem zpp {F marked : List Int} {i : Nat} : (cMk F marked i).length ≤ i := by
 unfold cMk
 rw [List.length_map]
 exact Nat.le_trans (List.length_filter_le _ _) (by simp)
set_option maxHeartbeats 4000000 in
theorem zkc (O : List Heap) (a : Aut) (ha : autOk a) (h1 : 1 ≤ a.states) (F : List Int) (hF : zbQ a = F) (hFl : F.length ≤ 4096) : zan Tryz.prog 76 [autD a] O (autD (canR a F)) [] O := by
 obtain ⟨c1, c2, c3, c4⟩ := zba ha.chk
 have hed := ha.ed
 have hmk := ha.mkd
 have hal := zbt (by decide) c1
 have hal : a.alpha.length ≤ 32 := by omega
 have hst := fun O s ev => znZ O a s ev (by simp only [zam]; omega)
 have hfo := fun O => zq2 O a ha h1
 rw [hF] at hfo
 have hem := fun O => zly O a.alpha (by omega)
 have hho := fun O x => ztn O a.marked x (by simp only [zam]; omega)
 have hix := fun O x => zqV O F x (by simp only [zam]; omega)
 have hR : canR a F = ⟨a.alpha, F.length, cMk F a.marked F.length, cEd a.edges F a.alpha F.length⟩ := rfl
 rw [hR]
 clear hR c1 c2 c3 c4 hF
 obtain ⟨al, n, mk, es⟩ := a
 simp only at *
 refine zaC [9, 14] Tk Tryz.func76 rfl Tryz.call76 Tryz.ntmps76 (Nat.le_of_ble_eq_true rfl) fun E => ?_
 refine zaf Tk Tryz.func76 ?_
 refine zaj Tk Tryz.func76 (hfo _) rfl rfl rfl rfl rfl ?_
 refine zaj Tk Tryz.func76 (hem _) rfl rfl rfl rfl rfl ?_
 refine zad ?_
 refine zaw (zaP 4 33 3 1 (pre := [ints al, ii F.length]) (post := [.i (.v (.slice none 0 0))]) rfl rfl rfl) ?_
 refine zaw (zaP 4 68 117 3 (pre := [ints al, ii F.length, .osl 0 33]) (post := []) rfl rfl rfl) ?_
 refine zag (fun i : Nat => [(1, .own 0 1 0 0), (2, .own 0 2 0 0), (3, ints F), (4, .own 0 4 0 0), (5, ii i)]) (fun i => [(1, .box [ints al, ii n, ints mk, edgs es]), (2, zBox), (4, .box [ints al, ii F.length, .osl 0 33, .osl 0 68]), (33, zaK (cMk F mk i)), (68, zcR (cEd es F al i))]) (fun _ => O) 71
  (fun i => i ≤ F.length) (fun i => F.length - i) 0 (Nat.zero_le _) ⟨rfl, rfl, rfl, rfl, rfl, trivial⟩ rfl ⟨rfl, rfl, rfl, rfl, rfl, trivial⟩ rfl rfl ?_
 intro i hi ih
 refine zaf Tk Tryz.func76 ?_
 refine zae Tk Tryz.func76 rfl (fun g1 => ?_) (fun g1 => ?_)
 ·have h2 : i < F.length := by simpa using g1
  clear g1
  have hs0 : F[i]? = some F[i] := List.getElem?_eq_getElem h2
  have gs : (F.map fun x => [vi x])[(i : Int).toNat]? = some [vi F[i]] := zah (f := fun x => [vi x]) h2
  generalize F[i] = s at *
  have hm3 := zro (marked := mk) hs0
  have hml := zpp (F := F) (marked := mk) (i := i)
  have n1 : 0 ≤ (i : Int) ∧ (i : Int) < (F.length : Int) := by omega
  have hh1 := fun O => hho O s
  refine zaq Tk Tryz.func76 zay rfl ?_
  refine zat Tk (by exact n1) ?_
  refine zaA Tk (gs) ?_
  refine zaN Tk (fun _ => hh1 _) rfl rfl rfl ?_
  refine zav Tk Tryz.func76 (by kernel_rfl) ?_
  apply zbP (P := True) (s6 := { σ := [(1, .own 0 1 0 0), (2, .own 0 2 0 0), (3, ints F), (4, .own 0 4 0 0), (5, ii i)], S := [(1, .box [ints al, ii n, ints mk, edgs es]), (2, zBox), (4, .box [ints al, ii F.length, .osl 0 33, .osl 0 68]), (33, zaK (cMk F mk (i + 1))), (68, zcR (cEd es F al i))] :: O, n := 71 })
  ·intro J
   refine zae Tk Tryz.func76 rfl (fun d1 => ?_) (fun d1 => ?_)
   ·have d1 : s ∈ mk := of_decide_eq_true d1
    rw [if_pos d1] at hm3
    refine zak Tk Tryz.func76 (by exact ⟨by show ((cMk F mk i).length + 1) * 8 ≤ 140737488355328; omega, by show (cMk F mk i).length + 1 ≤ 9223372036854775807; omega⟩) ?_
    refine zax ?_
    refine zaJ (J trivial) ⟨rfl, rfl, rfl, rfl, rfl, trivial⟩ rfl ⟨rfl, rfl, rfl, ?_, rfl, trivial⟩ rfl rfl
    rw [hm3]
    exact congrArg some (zaR (cMk F mk i) (i : Int))
   ·have d1 : s ∉ mk := of_decide_eq_false d1
    rw [if_neg d1, List.append_nil] at hm3
    refine zax ?_
    refine zaJ (J trivial) ⟨rfl, rfl, rfl, rfl, rfl, trivial⟩ rfl ⟨rfl, rfl, rfl, by rw [hm3]; rfl, rfl, trivial⟩ rfl rfl
  ·intro _
   clear hm3 hml hh1
   have hE := zrp (es := es) (al := al) hs0
   have hEl := zpq (es := es) (F := F) (i := i) hal
   have hst1 := fun O ev => hst O s ev
   refine zaf Tk Tryz.func76 ?_
   refine g_go Tk Tryz.func76 ?_
   refine zad ?_
   refine zag (fun j : Nat => [(1, .own 0 1 0 0), (2, .own 0 2 0 0), (3, ints F), (4, .own 0 4 0 0), (5, ii i), (6, ii j)]) (fun j => [(1, .box [ints al, ii n, ints mk, edgs es]), (2, zBox), (4, .box [ints al, ii F.length, .osl 0 33, .osl 0 68]), (33, zaK (cMk F mk (i + 1))), (68, zcR (cEd es F al i ++ (al.take j).filterMap (cOf es F i s)))]) (fun _ => O) 71
    (fun j => j ≤ al.length) (fun j => al.length - j) 0 (Nat.zero_le _) ⟨rfl, rfl, rfl, rfl, rfl, rfl, trivial⟩ rfl ⟨rfl, rfl, rfl, rfl, by show some (zcR (cEd es F al i)) = some (zcR (cEd es F al i ++ [])); rw [List.append_nil], trivial⟩ rfl rfl ?_
   intro j hj ih2
   refine zaf Tk Tryz.func76 ?_
   refine zae Tk Tryz.func76 rfl (fun g2 => ?_) (fun g2 => ?_)
   ·have h3 : j < al.length := by simpa using g2
    clear g2
    have ga : (al.map fun x => [vi x])[(j : Int).toNat]? = some [vi al[j]] := zah (f := fun x => [vi x]) h3
    have htk : (al.take (j + 1)).filterMap (cOf es F i s) = (al.take j).filterMap (cOf es F i s) ++ [al[j]].filterMap (cOf es F i s) := by
     rw [List.take_succ_eq_append_getElem h3, List.filterMap_append]
    have hpl : ((al.take j).filterMap (cOf es F i s)).length ≤ 32 := Nat.le_trans (List.length_filterMap_le _ _) (by rw [List.length_take]; omega)
    have n2 : 0 ≤ (j : Int) ∧ (j : Int) < (al.length : Int) := by omega
    have hj1 : ii (IntKind.i64.wrap ((j : Int) + 1)) = ii ((j + 1 : Nat) : Int) := congrArg ii (zaB (n := 1000001) (by omega) (by decide))
    generalize al[j] = ev at *
    have hst2 := fun O => hst1 O ev
    have hco : [ev].filterMap (cOf es F i s) = if 0 ≤ stp3 es s ev then [((i : Int), ev, idxI (stp3 es s ev) F 0)] else [] := by
     unfold cOf
     by_cases h : 0 ≤ stp3 es s ev <;> simp [h]
    rw [hco] at htk
    clear hco
    have hix1 := fun O => hix O (stp3 es s ev)
    generalize stp3 es s ev = t at *
    refine zaq Tk Tryz.func76 zay rfl ?_
    refine zat Tk (by exact n1) ?_
    refine zaA Tk (gs) ?_
    refine zat Tk (by exact n2) ?_
    refine zaA Tk (ga) ?_
    refine zaN Tk (fun _ => hst2 _) rfl rfl rfl ?_
    refine zav Tk Tryz.func76 (by kernel_rfl) ?_
    refine zae Tk Tryz.func76 rfl (fun d1 => ?_) (fun d1 => ?_)
    ·have d1 : t ≥ 0 := of_decide_eq_true d1
     rw [if_pos d1] at htk
     refine zax ?_
     refine zaf Tk Tryz.func76 ?_
     refine g_go Tk Tryz.func76 ?_
     refine zaq Tk Tryz.func76 zay rfl ?_
     refine zat Tk (by exact n2) ?_
     refine zaA Tk (ga) ?_
     refine zaN Tk (fun _ => hix1 _) rfl rfl rfl ?_
     refine zlz Tk Tryz.func76 ([13, 14, 15]) (by kernel_rfl) (by kernel_rfl) ?_
     refine zak Tk Tryz.func76 (by exact ⟨by show ((cEd es F al i ++ (al.take j).filterMap (cOf es F i s)).length + 1) * 24 ≤ 140737488355328; rw [List.length_append]; omega, by show (cEd es F al i ++ (al.take j).filterMap (cOf es F i s)).length + 1 ≤ 9223372036854775807; rw [List.length_append]; omega⟩) ?_
     refine zad ?_
     refine ih2 (j + 1) _ _ h3 (by omega) ⟨rfl, rfl, rfl, rfl, rfl, hj1, trivial⟩ rfl ⟨rfl, rfl, rfl, rfl, ?_, trivial⟩ rfl rfl
     rw [htk, ← List.append_assoc]
     exact congrArg some (zfQ (cEd es F al i ++ (al.take j).filterMap (cOf es F i s)) ((i : Int), ev, idxI t F 0))
    ·have d1 : ¬ t ≥ 0 := of_decide_eq_false d1
     rw [if_neg d1, List.append_nil] at htk
     refine zad ?_
     refine ih2 (j + 1) _ _ h3 (by omega) ⟨rfl, rfl, rfl, rfl, rfl, hj1, trivial⟩ rfl ⟨rfl, rfl, rfl, rfl, by rw [htk]; rfl, trivial⟩ rfl rfl
   ·have h3 : al.length ≤ j := by simpa using g2
    refine zad ?_
    refine ih (i + 1) _ _ h2 (by omega) ⟨rfl, rfl, rfl, rfl, congrArg ii (zaB (n := 5000) (by omega) (by decide)), trivial⟩ rfl ⟨rfl, rfl, rfl, rfl, ?_, trivial⟩ rfl rfl
    show some (zcR (cEd es F al i ++ (al.take j).filterMap (cOf es F i s))) = _
    rw [List.take_of_length_le h3, hE]
 ·have h2 : F.length ≤ i := by simpa using g1
  obtain rfl : i = F.length := by omega
  refine zbm (zap 33 rfl rfl) ?_
  refine zbm (zap 68 rfl rfl) ?_
  refine zbm (zcs rfl) ?_
  refine zai Tk (r := autD ⟨al, F.length, cMk F mk F.length, cEd es F al F.length⟩) rfl rfl rfl trivial rfl rfl ?_
  rfl
end Go.AI
