/- The layer of abstract runs, part 28. -/
import Derived.Test.YtlcekmemdnjjbaaGreatDoorElkZA
import Derived.Laws.Strings
import Derived.KernelRfl
import Derived.Test.YtlcekmemdnjjbaaGreatDoorRows
import Derived.JoinedOf
import Derived.SevenTiedAt
set_option linter.unusedSimpArgs false
set_option linter.unusedVariables false
set_option linter.all false

namespace Go.AI
open Go.Proofs
set_option maxRecDepth 20000
def zbI (l : List Ext) : List Int := Lib.compact (zcC (l.flatMap (·.alpha)))
set_option maxHeartbeats 1000000 in
theorem zra (O : List Heap) (l : List Ext) (hl : l.length ≤ 4096) (ha : ∀ m ∈ l, m.alpha.length ≤ 4096) (hpos : 0 < (l.flatMap (·.alpha)).length) : zan Tryz.prog 91 [exts l] O (ints (zbI l)) [] O := by
 unfold zbI
 generalize hA : l.flatMap (·.alpha) = A at *
 have hA0 : [] ++ (l.drop 0).flatMap (·.alpha) = A := hA
 clear hA
 refine zaC [7, 200020] Tk Tryz.func91 rfl Tryz.call91 Tryz.ntmps91 (Nat.le_of_ble_eq_true rfl) fun E => ?_
 refine zaf Tk Tryz.func91 ?_
 refine zad ?_
 refine zaw (zcT 3 15 3 1 rfl rfl rfl) ?_
 refine zag (fun x : Nat × List Int => [(3, .osl 0 15), (6, exts l), (7, ii l.length), (8, ii x.1)]) (fun x => [(15, zaK x.2)]) (fun _ => O) 21
  (fun x => x.1 ≤ l.length ∧ x.2.length ≤ 4096 * x.1 ∧ x.2 ++ (l.drop x.1).flatMap (·.alpha) = A) (fun x => l.length - x.1) (0, []) ⟨Nat.zero_le _, by simp, hA0⟩ ⟨rfl, rfl, rfl, rfl, trivial⟩ rfl ⟨rfl, trivial⟩ rfl rfl ?_
 clear hA0
 rintro ⟨i, acc⟩ ⟨hi, hal, hno⟩ ih
 simp only at hi hal hno
 refine zaf Tk Tryz.func91 ?_
 refine zae Tk Tryz.func91 rfl (fun g1 => ?_) (fun g1 => ?_)
 ·have h1 : i < l.length := by simpa using g1
  clear g1
  have gm : (l.map extI)[(i : Int).toNat]? = some (extI l[i]) := zah h1
  have hma := ha _ (List.getElem_mem h1)
  rw [List.drop_eq_getElem_cons h1, List.flatMap_cons, ← List.append_assoc] at hno
  generalize l[i] = m at *
  refine zak Tk Tryz.func91 (by exact ⟨by omega, by show (i : Int) < (l.length : Int); omega⟩) ?_
  refine zar Tk Tryz.func91 (gm) ?_
  refine zak Tk Tryz.func91 (by exact ⟨by show (acc.length + m.alpha.length) * 8 ≤ 140737488355328; omega, by show acc.length + m.alpha.length ≤ 9223372036854775807; omega⟩) ?_
  refine zad ?_
  refine ih (i + 1, acc ++ m.alpha) _ _ ⟨h1, by simp only [List.length_append]; omega, hno⟩ (by simp only; omega) ⟨rfl, rfl, rfl, congrArg ii (zaB (n := 4096) (by omega) (by decide)), trivial⟩ rfl ⟨?_, trivial⟩ rfl rfl
  show some (Ob.arr 3 1 (acc.length + m.alpha.length) ((acc.map fun x => [vi x]) ++ m.alpha.map fun x => [vi x]) true) = some (zaK (acc ++ m.alpha))
  simp
 ·have h1 : l.length ≤ i := by simpa using g1
  rw [List.drop_eq_nil_of_le h1] at hno
  simp only [List.flatMap_nil, List.append_nil] at hno
  subst hno
  refine zax ?_
  refine zaf Tk Tryz.func91 ?_
  refine g_go Tk Tryz.func91 ?_
  refine zaj Tk Tryz.func91 (zsU _ 0 15 acc hpos (by omega) rfl) rfl rfl rfl (zb4 (ob := zaK acc) rfl (by simp [Ob.sh, zd1])) rfl ?_
  refine zc9 Tk Tryz.func91 rfl rfl rfl rfl (ziZ rfl (by rw [zd1]; exact hpos) rfl (show 20 < 21 by decide) rfl rfl) ?_
  refine zbm (zap 15 rfl rfl) ?_
  refine zai Tk (r := ints (Lib.compact (zcC acc))) rfl rfl rfl trivial rfl rfl ?_
  rfl
end Go.AI


namespace Go.AI
open Go.Proofs
set_option maxRecDepth 20000
instance vrDec : DecidableEq Vr := fun a b => decidable_of_iff (a.name = b.name ∧ a.low = b.low ∧ a.high = b.high ∧ a.init = b.init) ⟨fun ⟨h1, h2, h3, h4⟩ => by cases a; cases b; cases h1; cases h2; cases h3; cases h4; rfl, fun h => by subst h; exact ⟨rfl, rfl, rfl, rfl⟩⟩
theorem zrW (a b : ByteArray) : (a.toList == b.toList) = decide (a = b) := by
 rw [ByteArray.toList_eq, ByteArray.toList_eq, Bool.eq_iff_iff]
 simp only [beq_iff_eq, decide_eq_true_eq]
 constructor
 ·intro h
  apply ByteArray.ext
  apply Array.ext'
  exact h
 ·rintro rfl; rfl
theorem zsK (a b : Vr) : ((a.name.toList == b.name.toList) && ((a.low == b.low) && ((a.high == b.high) && ((a.init == b.init) && true)))) = decide (a = b) := by
 rw [zrW, Bool.eq_iff_iff]
 obtain ⟨an, al, ah, ai⟩ := a
 obtain ⟨bn, bl, bh, bi⟩ := b
 simp
set_option maxHeartbeats 1000000 in
theorem zj1 (O : List Heap) (a b : List Vr) (ha : a.length ≤ zam) : zan Tryz.prog 137 [vrs a, vrs b] O (bb (decide (a = b))) [] O := by
 by_cases hl : a.length = b.length
 ·have hR : decide (a = b) = decide (a.drop 0 = b.drop 0) := rfl
  generalize decide (a = b) = R at *
  refine zac Tk Tryz.func137 rfl Tryz.call137 Tryz.ntmps137 (Nat.le_of_ble_eq_true rfl) fun E => ?_
  refine zaf Tk Tryz.func137 ?_
  refine zae Tk Tryz.func137 rfl (fun g0 => ?_) (fun g0 => ?_)
  ·exact absurd (bneT g0) (by omega)
  clear g0
  refine zad ?_
  refine zag (fun i : Nat => [(0, vrs a), (1, vrs b), (12, ii a.length), (13, ii i)]) (fun _ => []) (fun _ => O) 26
   (fun i => i ≤ a.length ∧ R = decide (a.drop i = b.drop i)) (fun i => a.length - i) 0 ⟨Nat.zero_le _, hR⟩ ⟨rfl, rfl, rfl, rfl, trivial⟩ rfl trivial rfl rfl ?_
  clear hR
  rintro i ⟨hi, hno⟩ ih
  refine zaf Tk Tryz.func137 ?_
  refine zae Tk Tryz.func137 rfl (fun g1 => ?_) (fun g1 => ?_)
  ·have h1 : i < a.length := by simpa using g1
   clear g1
   have gx : (a.map vrI)[(i : Int).toNat]? = some (vrI a[i]) := zah h1
   have gy : (b.map vrI)[(i : Int).toNat]? = some (vrI (b[i]'(by omega))) := zah (by omega)
   have dx : a.drop i = a[i] :: a.drop (i + 1) := List.drop_eq_getElem_cons h1
   have dy : b.drop i = (b[i]'(by omega)) :: b.drop (i + 1) := List.drop_eq_getElem_cons (by omega)
   rw [dx, dy] at hno
   clear dx dy
   generalize a[i] = x at *
   generalize b[i]'(by omega) = y at *
   have hxy := zsK x y
   refine zaq Tk Tryz.func137 zay rfl ?_
   refine zat Tk (by exact ⟨by omega, by show (i : Int) < (a.length : Int); omega⟩) ?_
   refine zaA Tk (gx) ?_
   refine zat Tk (by exact ⟨by omega, by show (i : Int) < (b.length : Int); omega⟩) ?_
   refine zaA Tk (gy) ?_
   refine zav Tk Tryz.func137 (by kernel_rfl) ?_
   refine zae Tk Tryz.func137 rfl (fun g2 => ?_) (fun g2 => ?_)
   ·have g2 : decide (x = y) = false := hxy.symm.trans (notT g2)
    have g2 := of_decide_eq_false g2
    have hno : R = false := by rw [hno]; simp [g2]
    subst hno
    refine zai Tk (r := bb false) rfl rfl rfl trivial rfl rfl ?_
    rfl
   ·have g2 : decide (x = y) = true := hxy.symm.trans (notF g2)
    have g2 := of_decide_eq_true g2
    have hno : R = decide (a.drop (i + 1) = b.drop (i + 1)) := by rw [hno]; simp [g2]
    refine zad ?_
    exact ih (i + 1) _ _ ⟨h1, hno⟩ (by omega) ⟨rfl, rfl, rfl, congrArg ii (zaB h1 ha), trivial⟩ rfl trivial rfl rfl
  ·have h1 : a.length ≤ i := by simpa using g1
   have hno : R = true := by rw [hno, List.drop_eq_nil_of_le h1, List.drop_eq_nil_of_le (by omega)]; simp
   subst hno
   refine zai Tk (r := bb true) rfl rfl rfl trivial rfl rfl ?_
   rfl
 ·have hR : decide (a = b) = false := by
   apply decide_eq_false
   rintro rfl
   exact hl rfl
  rw [hR]
  refine zac Tk Tryz.func137 rfl Tryz.call137 Tryz.ntmps137 (Nat.le_of_ble_eq_true rfl) fun E => ?_
  refine zaf Tk Tryz.func137 ?_
  refine zae Tk Tryz.func137 rfl (fun g0 => ?_) (fun g0 => ?_)
  ·refine zai Tk (r := bb false) rfl rfl rfl trivial rfl rfl ?_
   rfl
  ·exact absurd (bneF g0) (by omega)
def chkJ (l : List Ext) : Int := if l.length = 0 then 12 else if l.length > 12 then 3 else if zbB l ≠ 0 then zbB l else if l.tail.any (fun m => decide (m.vars ≠ zcU l)) = true then 13 else 0
theorem zsB {l : List Ext} (hok : ∀ m ∈ l, extOk m) (h : chkJ l = 0) : jntOk l := by
 unfold chkJ at h
 by_cases h1 : l.length = 0
 ·rw [if_pos h1] at h; cases h
 rw [if_neg h1] at h
 by_cases h2 : l.length > 12
 ·rw [if_pos h2] at h; cases h
 rw [if_neg h2] at h
 by_cases h3 : zbB l ≠ 0
 ·rw [if_pos h3] at h; exact absurd h h3
 rw [if_neg h3] at h
 by_cases h4 : l.tail.any (fun m => decide (m.vars ≠ zcU l)) = true
 ·rw [if_pos h4] at h; cases h
 refine ⟨fun e => h1 (by rw [e]; rfl), by omega, hok, fun m hm => zgk (zhe (by simpa using h3) m hm), fun m hm => ?_⟩
 match l, hm with
 | n :: r, hm =>
  rcases List.mem_cons.1 hm with rfl | hm
  ·rfl
  ·simp only [List.tail_cons, List.any_eq_true, decide_eq_true_eq, not_exists, not_and] at h4
   exact Classical.byContradiction fun hc => h4 m hm hc
set_option maxHeartbeats 1000000 in
theorem zi6 (O : List Heap) (l : List Ext) (hok : ∀ m ∈ l, extOk m) (hl63 : l.length ≤ zam) : zan Tryz.prog 84 [exts l] O (ii (chkJ l)) [] O := by
 generalize hR : chkJ l = R
 unfold chkJ at hR
 refine zac Tk Tryz.func84 rfl Tryz.call84 Tryz.ntmps84 (Nat.le_of_ble_eq_true rfl) fun E => ?_
 refine zaf Tk Tryz.func84 ?_
 refine zae Tk Tryz.func84 rfl (fun g1 => ?_) (fun g1 => ?_)
 ·have g1 : l.length = 0 := by have := beqT g1; omega
  rw [if_pos g1] at hR
  subst hR
  refine zai Tk (r := ii 12) rfl rfl rfl trivial rfl rfl ?_
  rfl
 have g1 : l.length ≠ 0 := by have := beqF g1; omega
 rw [if_neg g1] at hR
 refine zae Tk Tryz.func84 rfl (fun g2 => ?_) (fun g2 => ?_)
 ·have g2 : l.length > 12 := by have : (l.length : Int) > 12 := of_decide_eq_true g2; omega
  rw [if_pos g2] at hR
  subst hR
  refine zai Tk (r := ii 3) rfl rfl rfl trivial rfl rfl ?_
  rfl
 have g2 : ¬ l.length > 12 := by have : ¬ (l.length : Int) > 12 := of_decide_eq_false g2; omega
 rw [if_neg g2] at hR
 have hE0 : zbB l = zbB (l.drop 0) := rfl
 generalize zbB l = E1 at *
 refine zad ?_
 refine zag (fun i : Nat => [(0, exts l), (16, exts l), (17, ii l.length), (18, ii i)]) (fun _ => []) (fun _ => O) 44
  (fun i => i ≤ l.length ∧ E1 = zbB (l.drop i)) (fun i => l.length - i) 0 ⟨Nat.zero_le _, hE0⟩ ⟨rfl, rfl, rfl, rfl, trivial⟩ rfl trivial rfl rfl ?_
 clear hE0
 rintro i ⟨hi, hno⟩ ih
 refine zaf Tk Tryz.func84 ?_
 refine zae Tk Tryz.func84 rfl (fun g3 => ?_) (fun g3 => ?_)
 ·have h1 : i < l.length := by simpa using g3
  clear g3
  have gm : (l.map extI)[(i : Int).toNat]? = some (extI l[i]) := zah h1
  have hck := fun O => zh6 O l[i] (hok _ (List.getElem_mem h1))
  rw [List.drop_eq_getElem_cons h1] at hno
  simp only [zbB] at hno
  generalize l[i] = m at *
  generalize chk m = C at *
  refine zak Tk Tryz.func84 (by exact ⟨by omega, by show (i : Int) < (l.length : Int); omega⟩) ?_
  refine zar Tk Tryz.func84 (gm) ?_
  refine zaj Tk Tryz.func84 (hck _) rfl rfl rfl rfl rfl ?_
  refine zae Tk Tryz.func84 rfl (fun g4 => ?_) (fun g4 => ?_)
  ·have g4 : C ≠ 0 := bneT g4
   rw [if_pos g4] at hno
   rw [hno, if_pos g4] at hR
   subst hR
   refine zai Tk (r := ii C) rfl rfl rfl trivial rfl rfl ?_
   rfl
  have g4 : C = 0 := bneF g4
  rw [if_neg (by simpa using g4)] at hno
  refine zad ?_
  exact ih (i + 1) _ _ ⟨h1, hno⟩ (by omega) ⟨rfl, rfl, rfl, congrArg ii (zaB h1 hl63), trivial⟩ rfl trivial rfl rfl
 ·have h1 : l.length ≤ i := by simpa using g3
  rw [List.drop_eq_nil_of_le h1] at hno
  simp only [zbB] at hno
  subst hno
  clear ih g3
  rw [if_neg (by simp)] at hR
  have hpos : 0 < l.length := by omega
  have g0 : (l.map extI)[(0 : Int).toNat]? = some (extI l[0]) := zah (i := 0) hpos
  have e0 : zcU l = l[0].vars := by
   unfold zcU
   rw [List.getD_eq_getElem?_getD, List.getElem?_eq_getElem hpos]; rfl
  have hva := (hok _ (List.getElem_mem hpos)).va
  rw [e0] at hR
  have hT0 : (if (l.drop (0 + 1)).any (fun m => decide (m.vars ≠ l[0].vars)) = true then (13 : Int) else 0) = R := by rw [← hR, List.drop_one]
  clear hR
  generalize l[0] = m0 at *
  refine zak Tk Tryz.func84 (by exact ⟨by omega, by show (1 : Int) ≤ (l.length : Int); omega⟩) ?_
  refine zad ?_
  refine zag (fun i : Nat => [(0, exts l), (29, .i (.sl 6 (l.length - Int.toNat 1) ((l.map extI).drop (Int.toNat 1)))), (30, ii ((l.length - Int.toNat 1 : Nat) : Int)), (31, ii i)]) (fun _ => []) (fun _ => O) 44
   (fun i => i + 1 ≤ l.length ∧ (if (l.drop (i + 1)).any (fun m => decide (m.vars ≠ m0.vars)) = true then (13 : Int) else 0) = R) (fun i => l.length - i) 0 ⟨by omega, hT0⟩ ⟨rfl, rfl, rfl, rfl, trivial⟩ rfl trivial rfl rfl ?_
  clear hT0
  rintro i ⟨hi, hno⟩ ih
  refine zaf Tk Tryz.func84 ?_
  refine zae Tk Tryz.func84 rfl (fun g3 => ?_) (fun g3 => ?_)
  ·have h1 : i + 1 < l.length := by
    have : (i : Int) < ((l.length - Int.toNat 1 : Nat) : Int) := by simpa using g3
    have e : Int.toNat 1 = 1 := rfl
    omega
   clear g3
   have gm : ((l.map extI).drop (Int.toNat 1))[(i : Int).toNat]? = some (extI l[i + 1]) := by
    rw [show Int.toNat 1 = 1 from rfl, Int.toNat_natCast, List.getElem?_drop, Nat.add_comm 1 i, List.getElem?_map, List.getElem?_eq_getElem h1]
    rfl
   rw [List.drop_eq_getElem_cons h1] at hno
   simp only [List.any_cons, Bool.or_eq_true, decide_eq_true_eq] at hno
   have hmv := (hok _ (List.getElem_mem h1)).va
   generalize l[i + 1] = m at *
   have heq := fun O => zj1 O m.vars m0.vars hmv
   have n1 : 0 ≤ (i : Int) ∧ (i : Int) < ((l.length - Int.toNat 1 : Nat) : Int) := by
    have e : Int.toNat 1 = 1 := rfl
    omega
   refine zak Tk Tryz.func84 (n1) ?_
   refine zar Tk Tryz.func84 (gm) ?_
   refine zaq Tk Tryz.func84 zay rfl ?_
   refine zat Tk (by exact ⟨by omega, by show (0 : Int) < (l.length : Int); omega⟩) ?_
   refine zaA Tk (g0) ?_
   refine zaN Tk (fun _ => heq _) rfl rfl rfl ?_
   refine zav Tk Tryz.func84 (by kernel_rfl) ?_
   refine zae Tk Tryz.func84 rfl (fun g4 => ?_) (fun g4 => ?_)
   ·have g4 : m.vars ≠ m0.vars := of_decide_eq_false (notT g4)
    rw [if_pos (.inl g4)] at hno
    subst hno
    refine zai Tk (r := ii 13) rfl rfl rfl trivial rfl rfl ?_
    rfl
   ·have g4 : m.vars = m0.vars := of_decide_eq_true (notF g4)
    refine zad ?_
    refine ih (i + 1) _ _ ⟨h1, ?_⟩ (by omega) ⟨rfl, rfl, rfl, congrArg ii (zaB (n := 4096) (by omega) (by decide)), trivial⟩ rfl trivial rfl rfl
    rw [← hno]
    simp [g4]
  ·have h1 : l.length ≤ i + 1 := by
    have : ¬ (i : Int) < ((l.length - Int.toNat 1 : Nat) : Int) := by simpa using g3
    have e : Int.toNat 1 = 1 := rfl
    omega
   rw [List.drop_eq_nil_of_le h1] at hno
   simp only [List.any_nil, Bool.false_eq_true, if_false] at hno
   subst hno
   refine zai Tk (r := ii 0) rfl rfl rfl trivial rfl rfl ?_
   rfl
end Go.AI


namespace Go.AI
open Go.Proofs
set_option maxRecDepth 20000
def ziH (l : List Ext) : Except Int (Unf Org) := if chkJ l ≠ 0 then .error (chkJ l) else unfO l (zbI l) (zfA l)
theorem zty {e : Int} : CoD (.tup [.agg [.i (.v (.slice none 0 0)), ii 0, .i (.v (.slice none 0 0)), .i (.v (.slice none 0 0))], .i (.v (.slice none 0 0)), ii e]) (znR [] (.error e)) :=
 zbK (.cons (zbZ (.cons (zbY zaW) (.cons (CoD.refl _) (.cons (zbY zaW) (.cons (zbY zaW) .nil))))) (.cons (zbY zaW) (CoDL.refl _)))
theorem zg8 {l : List Ext} (hj : jntOk l) : (zbI l).length ≤ 4096 ∧ ∀ m ∈ l, m.alpha.length ≤ 4096 := by
 have h1 : ∀ m ∈ l, m.alpha.length ≤ 32 := fun m hm => by have := zeq (by decide) (hj.right m hm).alpha; omega
 have h2 : ∀ k : List Ext, (∀ m ∈ k, m.alpha.length ≤ 32) → (k.flatMap (·.alpha)).length ≤ 32 * k.length := by
  intro k
  induction k with
  | nil => intro _; simp
  | cons m r ih =>
   intro h
   have := ih fun n hn => h n (by simp [hn])
   have := h m (by simp)
   simp only [List.flatMap_cons, List.length_append, List.length_cons]
   omega
 have h3 := h2 l h1
 have h4 := hj.len
 have h5 := zhd (zcC (l.flatMap (·.alpha)))
 rw [zd1] at h5
 exact ⟨by unfold zbI; omega, fun m hm => by have := h1 m hm; omega⟩
end Go.AI


namespace Go.AI
open Go.Proofs
set_option maxRecDepth 20000
theorem zcE (O : List Heap) (l : List Int) (hl : l.length ≤ zam) : zan Tryz.prog 35 [ints l, ints l] O (bb true) [] O := by
 have h := zfF O l l hl
 rwa [decide_eq_true rfl] at h
theorem zsX (O : List Heap) (a : Aut) (ha : a.alpha.length ≤ zam) (hm : a.marked.length ≤ zam) (he : a.edges.length ≤ zam) : zan Tryz.prog 34 [autD a, autD a] O (bb true) [] O := by
 obtain ⟨al, n, mk, es⟩ := a
 simp only at ha hm he
 have h1 := fun O => zcE O al ha
 have h2 := fun O => zcE O mk hm
 refine zac Tk Tryz.func34 rfl Tryz.call34 Tryz.ntmps34 (Nat.le_of_ble_eq_true rfl) fun E => ?_
 refine zaf Tk Tryz.func34 ?_
 refine zaj Tk Tryz.func34 (h1 _) rfl rfl rfl rfl rfl ?_
 refine gkF Tk Tryz.func34 rfl ?_
 refine zaF Tk Tryz.func34 rfl (fun g1 => ?_) (fun g1 => ?_)
 ·exact absurd rfl (bneT g1)
 refine zaj Tk Tryz.func34 (h2 _) rfl rfl rfl rfl rfl ?_
 refine gkF Tk Tryz.func34 rfl ?_
 refine zae Tk Tryz.func34 rfl (fun g2 => ?_) (fun g2 => ?_)
 ·exact absurd rfl (bneT g2)
 refine zad ?_
 refine zag (fun i : Nat => [(2, .own 0 2 0 0), (3, .own 0 3 0 0), (5, ii i)]) (fun _ => [(2, .box [ints al, ii n, ints mk, edgs es]), (3, .box [ints al, ii n, ints mk, edgs es])]) (fun _ => O) 54
  (fun i => i ≤ es.length) (fun i => es.length - i) 0 (Nat.zero_le _) ⟨rfl, rfl, rfl, trivial⟩ rfl ⟨rfl, rfl, trivial⟩ rfl rfl ?_
 rintro i hi ih
 refine zaf Tk Tryz.func34 ?_
 refine zae Tk Tryz.func34 rfl (fun g3 => ?_) (fun g3 => ?_)
 ·have h3 : i < es.length := by simpa using g3
  have ge : (es.map edgI)[(i : Int).toNat]? = some (edgI es[i]) := zah h3
  generalize es[i] = e at *
  refine zaq Tk Tryz.func34 zay rfl ?_
  refine zat Tk (by exact ⟨by omega, by show (i : Int) < (es.length : Int); omega⟩) ?_
  refine zaA Tk (ge) ?_
  refine zat Tk (by exact ⟨by omega, by show (i : Int) < (es.length : Int); omega⟩) ?_
  refine zaA Tk (ge) ?_
  refine zav Tk Tryz.func34 (by kernel_rfl) ?_
  refine zae Tk Tryz.func34 rfl (fun g4 => ?_) (fun g4 => ?_)
  ·simp at g4
  ·refine zad ?_
   exact ih (i + 1) _ _ h3 (by omega) ⟨rfl, rfl, congrArg ii (zaB h3 he), trivial⟩ rfl ⟨rfl, rfl, trivial⟩ rfl rfl
 ·refine zai Tk (r := bb true) rfl rfl rfl trivial rfl rfl ?_
  rfl
end Go.AI


namespace Go.AI
open Go.Proofs
set_option maxRecDepth 20000
def ze7 (op n : Int) : Ex := .mk op 0 0 [nE, kE n]
def za7 (g : Ex) : Ext := ⟨[0, 1], 1, 0, [], [nVr 2], [⟨0, 0, 0, g, [⟨0, ze7 2 1⟩]⟩, ⟨0, 1, 0, ze7 6 2, [⟨0, ze6⟩]⟩]⟩
theorem zoq (O : List Heap) (op n : Int) : zan Tryz.prog 72 [ii op, ii n] O (exA (ze7 op n)) [] O := by
 refine zac Tk Tryz.func72 rfl Tryz.call72 Tryz.ntmps72 (Nat.le_of_ble_eq_true rfl) fun E => ?_
 refine zaf Tk Tryz.func72 ?_
 refine zao Tk (r := _) rfl rfl rfl trivial rfl rfl ?_
 repeat' (first | refine zbK ?_ | refine zbZ ?_ | refine zbY ?_ | refine CoDL.cons ?_ ?_ | exact CoDL.nil | exact zaW | refine zeY ?_ | refine CoLL.cons ?_ ?_ | exact CoLL.nil | refine CoL.cons ?_ ?_ | exact CoL.nil | exact CoI.refl _ | exact CoL.refl _ | exact CoLL.refl _ | exact CoDL.refl _ | exact CoD.refl _)
theorem znc (O : List Heap) (x : Ex) : zan Tryz.prog 71 [exA x] O (extD (za7 x)) [] O := by
 have hp := fun op n O => zoq O op n
 refine zac Tk Tryz.func71 rfl Tryz.call71 Tryz.ntmps71 (Nat.le_of_ble_eq_true rfl) fun E => ?_
 refine zaf Tk Tryz.func71 ?_
 refine zaq Tk Tryz.func71 zay rfl ?_
 refine zaN Tk (fun _ => hp 2 1 _) rfl rfl rfl ?_
 refine zaN Tk (fun _ => hp 6 2 _) rfl rfl rfl ?_
 refine zex Tk rfl rfl rfl ?_
 refine zav Tk Tryz.func71 (by kernel_rfl) ?_
 refine zao Tk (r := _) rfl rfl rfl trivial rfl rfl ?_
 repeat' (first | refine zbK ?_ | refine zbZ ?_ | refine zbY ?_ | refine CoDL.cons ?_ ?_ | exact CoDL.nil | exact zaW | refine zeY ?_ | refine CoLL.cons ?_ ?_ | exact CoLL.nil | refine CoL.cons ?_ ?_ | exact CoL.nil | exact CoI.refl _ | exact CoL.refl _ | exact CoLL.refl _ | exact CoDL.refl _ | exact CoD.refl _)
theorem zfM (op n : Int) : exOk (ze7 op n) := zlw (zdd _ _ _) (zdd _ _ _)
theorem zh0 {x : Ex} (hx : exOk x) : extOk (za7 x) := by
 refine ⟨by simp [za7, zam], by simp [za7, zam], by simp [za7, zam], fun v hv => ?_, by simp [za7, zam], fun x hx => ?_⟩
 ·simp only [za7, List.mem_singleton] at hv
  subst hv
  show (1 : Nat) ≤ zam
  decide
 ·simp only [za7, List.mem_cons, List.mem_nil_iff, or_false] at hx
  rcases hx with rfl | rfl
  ·refine ⟨by assumption, by simp [zam], fun u hu => ?_⟩
   simp only [List.mem_singleton] at hu
   subst hu
   exact zfM _ _
  ·refine ⟨zfM _ _, by simp [zam], fun u hu => ?_⟩
   simp only [List.mem_singleton] at hu
   subst hu
   exact zdd _ _ _
def knU : Unf Sta := ⟨[⟨0, [0]⟩, ⟨0, [1]⟩, ⟨0, [2]⟩], [], [(0, 0, 1), (1, 0, 2), (2, 1, 0)]⟩
theorem znP : zhi (za7 (ze7 8 2)) = .ok knU := by kernel_rfl
theorem zmo : zhi (za7 zjg) = .error 17 := by kernel_rfl
theorem zjf : zia (za7 (ze7 8 2)) knU.sts (ze7 6 2) = ([2], 0) := by kernel_rfl
theorem zsh {g : Nat} (hg : zeO g) {ty : TypeId} {fr : Nat × Nat} (O : List Heap) : zbu g (ptab ty fr) Tryz.prog 28 [] O (bb true) [] O := by
 have hp := fun op n O => zoq O op n
 have hc := fun x O => znc O x
 have hu := fun O => zlJ hg (ty := ty) (fr := fr) O (za7 (ze7 8 2)) (zh0 (zfM _ _))
 simp only [znP] at hu
 have hu2 := fun O => zlJ hg (ty := ty) (fr := fr) O (za7 zjg) (zh0 (zlw (zdd _ _ _) (zdd _ _ _)))
 simp only [zmo] at hu2
 have hw := fun O => zrU O (za7 (ze7 8 2)) knU.sts (ze7 6 2) (zh0 (zfM _ _)) (zfM _ _) (by decide) (by decide)
 simp only [zjf] at hw
 have ht := fun O => zrt O
 have hs := fun O => zfF O [2] [2] (by decide)
 refine zaO [] Tk Tryz.func28 rfl Tryz.call28 Tryz.ntmps28 (Nat.le_of_ble_eq_true rfl) fun E hE => ?_
 refine zaf Tk Tryz.func28 ?_
 refine zaj Tk Tryz.func28 (hp 8 2 _) rfl rfl rfl rfl rfl ?_
 refine zaj Tk Tryz.func28 (hc (ze7 8 2) _) rfl rfl rfl rfl rfl ?_
 refine zbe Tk Tryz.func28 hE (hu _) rfl rfl rfl rfl rfl rfl ?_
 refine zaj Tk Tryz.func28 (ht _) rfl rfl rfl rfl rfl ?_
 refine zaj Tk Tryz.func28 (hc zjg _) rfl rfl rfl rfl rfl ?_
 refine zbe Tk Tryz.func28 hE (hu2 _) rfl rfl rfl rfl rfl rfl ?_
 refine zaj Tk Tryz.func28 (hp 8 2 _) rfl rfl rfl rfl rfl ?_
 refine zaj Tk Tryz.func28 (hc (ze7 8 2) _) rfl rfl rfl rfl rfl ?_
 refine zaj Tk Tryz.func28 (hp 6 2 _) rfl rfl rfl rfl rfl ?_
 refine zaj Tk Tryz.func28 (hw _) rfl rfl rfl rfl rfl ?_
 refine gkT Tk Tryz.func28 rfl ?_
 refine gkT Tk Tryz.func28 rfl ?_
 refine gkT Tk Tryz.func28 rfl ?_
 refine gkT Tk Tryz.func28 rfl ?_
 refine zak Tk Tryz.func28 (by exact ⟨by decide, by decide⟩) ?_
 refine zar Tk Tryz.func28 (rfl) ?_
 refine gkT Tk Tryz.func28 rfl ?_
 refine gkT Tk Tryz.func28 rfl ?_
 refine gkT Tk Tryz.func28 rfl ?_
 refine zaj Tk Tryz.func28 (hs _) rfl rfl rfl rfl rfl ?_
 refine zai Tk (r := bb true) rfl rfl rfl trivial rfl rfl ?_
 rfl
end Go.AI


namespace Go.AI
open Go.Proofs
set_option maxRecDepth 20000
def mvE (x : Edg) : Mv := ⟨x.1, x.2.1, x.2.2, zjg, []⟩
def za0 (a : Aut) : Ext := ⟨a.alpha, a.states, 0, a.marked, [], a.edges.map mvE⟩
def zh9 : Ext := ⟨[], 0, 0, [], [], []⟩
def ziL (a : Aut) : Ext × Int := if chkA a ≠ 0 then (zh9, chkA a) else if a.states = 0 then (zh9, 12) else if a.states > 64 ∨ (a.edges.length : Int) > 256 then (zh9, 3) else (za0 a, 0)
abbrev mvN (x : Edg) : List I := [vi x.1, vi x.2.1, vi x.2.2, vi 6, vi 0, vi 0, .sl 4 2 (exIs [ze6, ze6]), .v (.slice none 0 0)]
abbrev omvN (l : List Edg) : Ob := .arr 150 8 l.length (l.map mvN) true
theorem zqF (l : List Edg) (e : Edg) : Ob.arr 150 8 (l.length + 1) (l.map mvN ++ [mvN e]) true = omvN (l ++ [e]) := by simp
theorem zrL : ∀ l : List Edg, CoLL (l.map mvN) ((l.map mvE).map mvI)
 | [] => .nil
 | x :: r => .cons (.cons (CoI.refl _) (.cons (CoI.refl _) (.cons (CoI.refl _) (.cons (CoI.refl _) (.cons (CoI.refl _) (.cons (CoI.refl _) (.cons (CoI.refl _) (.cons zaW .nil)))))))) (zrL r)
theorem coZX {e : Int} : CoD (.tup [.agg [.i (.v (.slice none 0 0)), ii 0, ii 0, .i (.v (.slice none 0 0)), .i (.v (.slice none 0 0)), .i (.v (.slice none 0 0))], ii e]) (.tup [extD zh9, ii e]) :=
 zbK (.cons (zbZ (.cons (zbY zaW) (.cons (CoD.refl _) (.cons (CoD.refl _) (.cons (zbY zaW) (.cons (zbY zaW) (.cons (zbY zaW) .nil))))))) (CoDL.refl _))
theorem zg4 (O : List Heap) (a : Aut) (hl : a.edges.length ≤ 1000000) (hal : a.alpha.length ≤ 1000000) (hmk : a.marked.length ≤ 1000000) : zan Tryz.prog 31 [autD a] O (.tup [extD (ziL a).1, ii (ziL a).2]) [] O := by
 have h1 := fun O => zlE O a (by simp only [zam]; omega) (by simp only [zam]; omega) (by simp only [zam]; omega)
 have h2 := fun O => zh1 O a.alpha (by simp only [big]; omega)
 have h3 := fun O => zh1 O a.marked (by simp only [big]; omega)
 have ht := fun O => zrt O
 generalize hR : ziL a = R
 unfold ziL at hR
 generalize chkA a = e at *
 obtain ⟨al, n, mk, es⟩ := a
 simp only at hR h1 h2 h3 hl
 refine zac Tk Tryz.func31 rfl Tryz.call31 Tryz.ntmps31 (Nat.le_of_ble_eq_true rfl) fun E => ?_
 refine zaf Tk Tryz.func31 ?_
 refine zaj Tk Tryz.func31 (h1 _) rfl rfl rfl rfl rfl ?_
 refine zae Tk Tryz.func31 rfl (fun c1 => ?_) (fun c1 => ?_)
 ·have c1 : e ≠ 0 := bneT c1
  rw [if_pos c1] at hR
  subst hR
  refine zao Tk (r := _) rfl rfl rfl trivial rfl rfl ?_
  exact coZX
 have c1 : e = 0 := bneF c1
 rw [if_neg (by simpa using c1)] at hR
 refine zae Tk Tryz.func31 rfl (fun c2 => ?_) (fun c2 => ?_)
 ·have c2 : n = 0 := beqT c2
  rw [if_pos c2] at hR
  subst hR
  refine zao Tk (r := _) rfl rfl rfl trivial rfl rfl ?_
  exact coZX
 have c2 : n ≠ 0 := beqF c2
 rw [if_neg c2] at hR
 refine zaF Tk Tryz.func31 rfl (fun c3 => ?_) (fun c3 => ?_)
 ·have c3 : n > 64 := of_decide_eq_true c3
  rw [if_pos (.inl c3)] at hR
  subst hR
  refine gcT Tk Tryz.func31 rfl ?_
  refine zao Tk (r := _) rfl rfl rfl trivial rfl rfl ?_
  exact coZX
 have c3 : ¬ n > 64 := of_decide_eq_false c3
 refine zae Tk Tryz.func31 rfl (fun c4 => ?_) (fun c4 => ?_)
 ·have c4 : (es.length : Int) > 256 := of_decide_eq_true c4
  rw [if_pos (.inr c4)] at hR
  subst hR
  refine zao Tk (r := _) rfl rfl rfl trivial rfl rfl ?_
  exact coZX
 have c4 : ¬ (es.length : Int) > 256 := of_decide_eq_false c4
 rw [if_neg (by omega)] at hR
 subst hR
 clear h1
 refine zaq Tk Tryz.func31 zay rfl ?_
 refine zaN Tk (fun _ => h2 _) rfl rfl rfl ?_
 refine zaN Tk (fun _ => h3 _) rfl rfl rfl ?_
 refine zex Tk rfl rfl rfl ?_
 refine zav Tk Tryz.func31 (by kernel_rfl) ?_
 refine zad ?_
 refine zaw (zaP 5 57 150 8 (pre := [ints al, ii n, ii 0, ints mk, .i (.v (.slice none 0 0))]) (post := []) rfl rfl rfl) ?_
 refine zag (fun i : Nat => [(2, .own 0 2 0 0), (5, .own 0 5 0 0), (40, edgs es), (41, ii es.length), (42, ii i)]) (fun i => [(2, .box [.i (.v (.slice none 0 0)), ii 0, ii 0, .i (.v (.slice none 0 0)), .i (.v (.slice none 0 0)), .i (.v (.slice none 0 0))]), (5, .box [ints al, ii n, ii 0, ints mk, .i (.v (.slice none 0 0)), .osl 0 57]), (57, omvN (es.take i))]) (fun _ => O) 61
  (fun i => i ≤ es.length) (fun i => es.length - i) 0 (Nat.zero_le _) ⟨rfl, rfl, rfl, rfl, rfl, trivial⟩ rfl ⟨rfl, rfl, rfl, trivial⟩ rfl rfl ?_
 intro i hi ih
 refine zaf Tk Tryz.func31 ?_
 refine zae Tk Tryz.func31 rfl (fun g1 => ?_) (fun g1 => ?_)
 ·have h1 : i < es.length := by simpa using g1
  have ge : (es.map edgI)[(i : Int).toNat]? = some (edgI es[i]) := zah h1
  have hlt : (es.take i).length ≤ 1000000 := by rw [List.length_take]; omega
  have htk : es.take (i + 1) = es.take i ++ [es[i]] := List.take_succ_eq_append_getElem h1
  generalize es[i] = x at *
  obtain ⟨xf, xe, xt⟩ := x
  refine zak Tk Tryz.func31 (by exact ⟨by omega, by show (i : Int) < (es.length : Int); omega⟩) ?_
  refine zar Tk Tryz.func31 (ge) ?_
  refine zaq Tk Tryz.func31 zay rfl ?_
  refine zaN Tk (fun _ => ht _) rfl rfl rfl ?_
  refine zlz Tk Tryz.func31 ([11, 12, 13]) (by kernel_rfl) (by kernel_rfl) ?_
  refine zak Tk Tryz.func31 (by exact ⟨by show ((es.take i).length + 1) * 96 ≤ 140737488355328; omega, by show (es.take i).length + 1 ≤ 9223372036854775807; omega⟩) ?_
  refine zad ?_
  refine ih (i + 1) _ _ h1 (by omega) ⟨rfl, rfl, rfl, rfl, congrArg ii (zaB (n := 1000001) (by omega) (by decide)), trivial⟩ rfl ⟨rfl, rfl, ?_, trivial⟩ rfl rfl
  show _ = some (omvN (es.take (i + 1)))
  rw [htk]
  exact congrArg some (zqF (es.take i) (xf, xe, xt))
 ·have h1 : es.length ≤ i := by simpa using g1
  refine zbm (zap 57 rfl rfl) ?_
  refine zbm (zcs rfl) ?_
  refine zao Tk (r := _) rfl rfl rfl trivial rfl rfl ?_
  show CoD (.tup [.agg [ints al, ii n, ii 0, ints mk, .i (.v (.slice none 0 0)), .i (.sl 8 (es.take i).length ((es.take i).map mvN))], ii 0]) _
  rw [List.take_of_length_le h1]
  refine zbK (.cons (zbZ (.cons (CoD.refl _) (.cons (CoD.refl _) (.cons (CoD.refl _) (.cons (CoD.refl _) (.cons (zbY zaW) (.cons ?_ .nil))))))) (CoDL.refl _))
  show CoD _ (D.i (.sl 8 (es.map mvE).length ((es.map mvE).map mvI)))
  rw [List.length_map]
  exact zbY (zeY (zrL es))
end Go.AI


namespace Go.AI
set_option maxRecDepth 20000
theorem zlp : ∀ (l : List Int) (T : List UInt8), ze9 T l = keyL T l
 | [], T => by simp [ze9, keyL]
 | x :: r, T => by rw [ze9, keyL, zlp r]
abbrev tO (t : List Int) : Org := ⟨t, []⟩
theorem zlo (t : List Int) : zcc (tO t) = ⟨(encL t ++ 59 :: [59]).toArray⟩ := by
 show zej [t, []] = _
 unfold zej
 rw [zeb, zeb, zeb, ze9, zlp, zfk]
 simp
theorem zhg {a b : ByteArray} : (a == b) = true ↔ a = b := by
 constructor
 ·intro h
  have h' : (a.data == b.data) = true := h
  exact ByteArray.ext (by simpa using h')
 ·rintro rfl
  show (a.data == a.data) = true
  simp
theorem zqQ {a b : List Int} (ha : ∀ x ∈ a, 0 ≤ x ∧ x < 64) (hb : ∀ x ∈ b, 0 ≤ x ∧ x < 64) : keqO (tO a) (tO b) = eqB a b := by
 show (zcc (tO a) == zcc (tO b)) = _
 unfold eqB
 by_cases h : a = b
 ·subst h
  rw [decide_eq_true rfl]
  exact zhg.2 rfl
 ·rw [decide_eq_false h]
  cases hk : zcc (tO a) == zcc (tO b) with
  | false => rfl
  | true =>
   have e := zhg.1 hk
   rw [zlo, zlo] at e
   simp only [ByteArray.mk.injEq] at e
   have e : encL a ++ 59 :: [59] = encL b ++ 59 :: [59] := by
    have := congrArg Array.toList e
    simpa using this
   exact absurd (zgh ha hb e).1 h
structure frOk (a : Aut) : Prop extends autOk a where
 n1 : 1 ≤ a.states
 n2 : a.states ≤ 64
 e2 : a.edges.length ≤ 256
theorem zrJ {al : List Int} {n : Int} {m : Ext} (ha : m.alpha = al) (hn : m.locs = n) (hv : m.vars = []) : ∀ {l : List Edg} {p : Option Edg}, l.Pairwise ltE → (∀ x ∈ l, (0 ≤ x.1 ∧ x.1 < n) ∧ (0 ≤ x.2.2 ∧ x.2.2 < n) ∧ x.2.1 ∈ al) → (∀ y, p = some y → ∀ x ∈ l, ltE y x) → zdI m (p.map mvE) (l.map mvE) = 0
 | [], _, _, _, _ => rfl
 | x :: r, p, hp, hb, hy => by
  rw [List.pairwise_cons] at hp
  have hx := hb x (by simp)
  have h0 : zgy m (p.map mvE) (mvE x) = 0 := by
   unfold zgy
   rw [if_neg (by show ¬ (x.1 < 0 ∨ x.1 ≥ m.locs ∨ x.2.2 < 0 ∨ x.2.2 ≥ m.locs); omega), if_neg (by show ¬ x.2.1 ∉ m.alpha; rw [ha]; simpa using hx.2.2)]
   rw [if_neg (by
    cases p with
    | none => simp
    | some y =>
     have h := hy y rfl x (by simp)
     unfold ltE at h
     simp only [Option.map_some, Option.any_some, decide_eq_true_eq]
     show ¬ (x.1 < y.1 ∨ x.1 = y.1 ∧ x.2.1 < y.2.1)
     omega)]
   have ht : zbN (mvE x).g m.vars.length 2 = 0 := by rw [hv]; show zbN zjg 0 2 = 0; decide
   rw [if_neg (by rw [ht]; simp)]
   rfl
  simp only [List.map_cons, zdI]
  rw [h0]
  simp only [ne_eq, not_true_eq_false, if_false]
  exact zrJ (p := some x) ha hn hv hp.2 (fun z hz => hb z (by simp [hz])) (fun y e z hz => by cases e; exact hp.1 z hz)
theorem ztr {a : Aut} (h : frOk a) : chk (za0 a) = 0 := by
 obtain ⟨c1, c2, c3, c4⟩ := zba h.chk
 obtain ⟨es1, eb, _⟩ := za8 c4
 have n1 := h.n1
 have n2 := h.n2
 have e2 := h.e2
 have hm : zdI (za0 a) none (za0 a).moves = 0 := zrJ (al := a.alpha) (n := a.states) (p := none) rfl rfl rfl es1 eb (fun y h => by cases h)
 unfold chk
 rw [if_neg (by show ¬ zal 32 a.alpha none ≠ 0; rw [c1]; simp), if_neg (by show ¬ (a.states < 1 ∨ a.states > 64 ∨ (0 : Int) < 0 ∨ (0 : Int) ≥ a.states); omega), if_neg (by show ¬ zal a.states a.marked none ≠ 0; rw [c3]; simp), if_neg (by show ¬ zbT [] ≠ 0; decide)]
 rw [if_neg (by show ¬ (a.edges.map mvE).length > 256; rw [List.length_map]; omega)]
 exact hm
theorem zts {a : Aut} (h : autOk a) : extOk (za0 a) := by
 have := h.ed
 have := h.al
 have := h.mkd
 refine ⟨by show a.alpha.length ≤ zam; simp only [zam]; omega, by show a.marked.length ≤ zam; simp only [zam]; omega, Nat.zero_le _, (fun v hv => by cases hv), by show (a.edges.map mvE).length ≤ zam; rw [List.length_map]; simp only [zam]; omega, fun x hx => ?_⟩
 obtain ⟨e, _, rfl⟩ := List.mem_map.1 hx
 exact ⟨⟨by simp [zam], ⟨Nat.zero_le _, trivial⟩, ⟨Nat.zero_le _, trivial⟩, trivial⟩, Nat.zero_le _, fun u hu => by cases hu⟩
theorem ztu : zbh zjg [] = (1, 0) := by decide
theorem zhP {a : Aut} (h : frOk a) : ziL a = (za0 a, 0) := by
 have n1 := h.n1
 have n2 := h.n2
 have e2 := h.e2
 unfold ziL
 rw [if_neg (by rw [h.chk]; simp), if_neg (by omega), if_neg (by omega)]
theorem zod {s ev : Int} : ∀ {l : List Edg} {i c : Nat} {k : Option Nat}, (∀ x ∈ l, ¬ (x.1 = s ∧ x.2.1 = ev)) → za2 s ev [] (l.map mvE) i c k = (none, c, k)
 | [], _, _, _, _ => rfl
 | x :: r, i, c, k, h => by
  have hx := h x (by simp)
  simp only [List.map_cons, za2]
  rw [if_pos (by
   show x.1 ≠ s ∨ x.2.1 ≠ ev
   by_cases h1 : x.1 = s
   ·exact .inr fun h2 => hx ⟨h1, h2⟩
   ·exact .inl h1)]
  exact zod fun y hy => h y (by simp [hy])
theorem zij {s ev : Int} : ∀ {l : List Edg} {i c : Nat} {k : Option Nat}, l.Pairwise ltE →
  (stp3 l s ev = -1 ∧ za2 s ev [] (l.map mvE) i c k = (none, c, k)) ∨ ∃ j x, l[j]? = some x ∧ stp3 l s ev = x.2.2 ∧ za2 s ev [] (l.map mvE) i c k = (none, c + 1, some (i + j))
 | [], _, _, _, _ => .inl ⟨rfl, rfl⟩
 | x :: r, i, c, k, h => by
  rw [List.pairwise_cons] at h
  by_cases hx : x.1 = s ∧ x.2.1 = ev
  ·refine .inr ⟨0, x, rfl, by simp only [stp3]; rw [if_pos hx], ?_⟩
   simp only [List.map_cons, za2]
   rw [if_neg (by
    show ¬ (x.1 ≠ s ∨ x.2.1 ≠ ev)
    rintro (h1 | h1)
    ·exact h1 hx.1
    ·exact h1 hx.2)]
   have hg : (mvE x).g = zjg := rfl
   rw [hg, ztu, if_neg (by simp), if_pos rfl]
   have := zod (s := s) (ev := ev) (l := r) (i := i + 1) (c := c + 1) (k := some i) (fun y hy hc => by
    have hlt := h.1 y hy
    unfold ltE at hlt
    omega)
   simpa using this
  ·simp only [List.map_cons, za2, stp3]
   rw [if_neg hx, if_pos (by
    show x.1 ≠ s ∨ x.2.1 ≠ ev
    by_cases h1 : x.1 = s
    ·exact .inr fun h2 => hx ⟨h1, h2⟩
    ·exact .inl h1)]
   rcases zij (i := i + 1) (c := c) (k := k) h.2 with ⟨h1, h2⟩ | ⟨j, y, h1, h2, h3⟩
   ·exact .inl ⟨h1, h2⟩
   ·exact .inr ⟨j + 1, y, by simpa using h1, h2, by rw [h3]; simp; omega⟩
theorem zqn {a : Aut} (h : frOk a) (s ev : Int) : (¬ 0 ≤ stp3 a.edges s ev ∧ selK (za0 a) s ev [] = .ok none) ∨ ∃ j, 0 ≤ stp3 a.edges s ev ∧ selK (za0 a) s ev [] = .ok (some j) ∧ (mvAt (za0 a).moves (some j)).to = stp3 a.edges s ev := by
 obtain ⟨c1, c2, c3, c4⟩ := zba h.chk
 obtain ⟨es1, eb, _⟩ := za8 c4
 have hs : selK (za0 a) s ev [] = match za2 s ev [] (a.edges.map mvE) 0 0 none with
  | (some e, _, _) => .error e
  | (none, c, k) => if c > 1 then .error 18 else .ok k := rfl
 rcases zij (s := s) (ev := ev) (i := 0) (c := 0) (k := none) es1 with ⟨h1, h2⟩ | ⟨j, x, h1, h2, h3⟩
 ·refine .inl ⟨by rw [h1]; decide, ?_⟩
  rw [hs, h2]
  rfl
 ·have hx := (eb x (List.mem_of_getElem? h1)).2.1
  refine .inr ⟨j, by rw [h2]; exact hx.1, ?_, ?_⟩
  ·rw [hs, h3]
   simp
  ·show (mvAt (a.edges.map mvE) (some j)).to = _
   simp only [mvAt, List.getD_eq_getElem?_getD, List.getElem?_map, h1, h2]
   rfl
theorem zgP {o : Org} {ev : Int} (hv : o.vals = []) : ∀ {l : List Aut} {i : Nat} {t : List Int}, (∀ a ∈ l, frOk a) → t.length = l.length → o.locs.drop i = t →
  ∃ q, zdQ o ev (l.map za0) i = .ok q ∧ ((tupS l t ev = none ∧ canO q = false) ∨ ∃ n, tupS l t ev = some n ∧ canO q = true ∧ zbc (l.map za0) t q = n)
 | [], i, t, _, ht, _ => by
  have : t = [] := List.eq_nil_of_length_eq_zero ht
  subst this
  exact ⟨[], rfl, .inr ⟨[], rfl, rfl, rfl⟩⟩
 | a :: l, i, [], _, ht, _ => by simp at ht
 | a :: l, i, x :: t, h, ht, hd => by
  have ha := h a (by simp)
  have hi : o.locs[i]? = some x := by
   have : (o.locs.drop i)[0]? = some x := by rw [hd]; rfl
   rwa [List.getElem?_drop, Nat.add_zero] at this
  have hd' : o.locs.drop (i + 1) = t := by
   rw [← List.drop_drop, hd]; rfl
  obtain ⟨q, hq, hc⟩ := zgP (ev := ev) hv (l := l) (i := i + 1) (t := t) (fun b hb => h b (by simp [hb])) (by simpa using ht) hd'
  simp only [List.map_cons, zdQ]
  have hal : (za0 a).alpha = a.alpha := rfl
  by_cases hev : ev ∈ a.alpha
  ·rw [hal, if_neg (by simpa using hev), hv, show o.locs.getD i 0 = x by rw [List.getD_eq_getElem?_getD, hi]; rfl]
   rcases zqn ha x ev with ⟨h1, h2⟩ | ⟨j, h1, h2, h3⟩
   ·rw [h2, hq]
    refine ⟨_, rfl, .inl ⟨?_, ?_⟩⟩
    ·simp only [tupS]
     rw [if_pos hev, if_neg h1]
    ·rw [zes]; simp
   ·rw [h2, hq]
    refine ⟨_, rfl, ?_⟩
    simp only [tupS]
    rw [if_pos hev, if_pos h1, zes]
    rcases hc with ⟨e1, e2⟩ | ⟨n, e1, e2, e3⟩
    ·exact .inl ⟨by rw [e1]; rfl, by rw [e2]; simp⟩
    ·refine .inr ⟨_, by rw [e1]; rfl, by rw [e2]; simp, ?_⟩
     simp only [zbc]
     rw [h3, e3]
  ·rw [hal, if_pos hev, hq]
   refine ⟨_, rfl, ?_⟩
   simp only [tupS]
   rw [if_neg hev, zes]
   rcases hc with ⟨e1, e2⟩ | ⟨n, e1, e2, e3⟩
   ·exact .inl ⟨by rw [e1]; rfl, by rw [e2]; simp⟩
   ·refine .inr ⟨_, by rw [e1]; rfl, by rw [e2]; simp, ?_⟩
    simp only [zbc]
    rw [e3]
theorem zjb {vars : List Vr} {vals : List Int} : ∀ {ms : List Mv} {out G : List Int}, (∀ x ∈ ms, x.us = []) → asgM vars vals ms out G = .ok (out, G)
 | [], _, _, _ => rfl
 | x :: r, out, G, h => by
  simp only [asgM]
  rw [h x (by simp)]
  simp only [asgU]
  exact zjb fun y hy => h y (by simp [hy])
theorem zta {l : List Aut} {q : List (Option (Option Nat))} : ∀ x ∈ mvsO (l.map za0) q, x.us = [] := by
 intro x hx
 rcases zfi x hx with rfl | ⟨m, hm, hx⟩
 ·rfl
 ·obtain ⟨a, _, rfl⟩ := List.mem_map.1 hm
  obtain ⟨e, _, rfl⟩ := List.mem_map.1 (show x ∈ a.edges.map mvE from hx)
  rfl
theorem zmt {l : List Aut} (h : ∀ a ∈ l, frOk a) {t : List Int} (ht : t.length = l.length) (ev : Int) :
  zbV (l.map za0) (tO t) ev = match tupS l t ev with | some n => (tO n, true, 0) | none => (znF, false, 0) := by
 obtain ⟨q, hq, hc⟩ := zgP (o := tO t) (ev := ev) rfl (i := 0) h ht rfl
 unfold zbV
 rw [zhz, hq]
 simp only [List.nil_append]
 rcases hc with ⟨e1, e2⟩ | ⟨n, e1, e2, e3⟩
 ·rw [e2, e1]; rfl
 ·rw [e2, e1, zjb zta]
  simp only [Bool.true_eq_false, if_false]
  show (Org.mk (zbc (l.map za0) t q) [], true, (0 : Int)) = _
  rw [e3]
theorem zgY : ∀ {l : List Aut} {t : List Int}, t.length = l.length → zbW (l.map za0) t = tMk l t
 | [], [], _ => rfl
 | [], _ :: _, h => by simp at h
 | _ :: _, [], h => by simp at h
 | a :: l, x :: t, h => by
  simp only [List.map_cons, zbW, tMk]
  rw [zgY (by simpa using h)]
  rfl
theorem zgG (l : List Aut) : zcU (l.map za0) = [] := by
 cases l <;> rfl
theorem zjj (l : List Aut) : zfA (l.map za0) = tO (tup0 l) := by
 unfold zfA
 rw [zgG]
 simp only [List.map_map, List.map_nil, tup0]
 rfl
theorem zeZ : ∀ {l : List Aut}, (∀ a ∈ l, frOk a) → zbB (l.map za0) = 0
 | [], _ => rfl
 | a :: l, h => by
  simp only [List.map_cons, zbB]
  rw [ztr (h a (by simp)), if_neg (by simp)]
  exact zeZ fun b hb => h b (by simp [hb])
theorem zpm {l : List Aut} (h0 : l ≠ []) (hl : l.length ≤ 12) (h : ∀ a ∈ l, frOk a) : chkJ (l.map za0) = 0 := by
 have hp : 0 < l.length := List.length_pos_iff.2 h0
 unfold chkJ
 rw [List.length_map, if_neg (by omega), if_neg (by omega), zeZ h, if_neg (by simp), if_neg]
 rw [zgG, List.any_eq_true]
 rintro ⟨m, hm, hne⟩
 obtain ⟨a, _, rfl⟩ := List.mem_map.1 (List.mem_of_mem_tail hm)
 simp [za0] at hne
theorem zeW {l : List Aut} (h : ∀ a ∈ l, chkA a = 0) : zbI (l.map za0) = evL l := by
 unfold zbI
 have e : (l.map za0).flatMap (·.alpha) = l.flatMap (·.alpha) := by
  rw [List.flatMap_map]; rfl
 have hb : ∀ x ∈ l.flatMap (·.alpha), 0 ≤ x ∧ x < ((32 : Nat) : Int) := by
  intro x hx
  obtain ⟨a, ha, hx⟩ := List.mem_flatMap.1 hx
  exact (zaD (zba (h a ha)).1).2.1 x hx
 rw [e, zen hb]
 refine zgK (zdE _ _) (zaD (zjZ h)).1 fun x => ?_
 rw [zc5, zse h]
 constructor
 ·rintro ⟨_, hx⟩
  obtain ⟨a, ha, hx⟩ := List.mem_flatMap.1 hx
  exact ⟨a, ha, hx⟩
 ·rintro ⟨a, ha, hx⟩
  have : x ∈ l.flatMap (·.alpha) := List.mem_flatMap.2 ⟨a, ha, hx⟩
  exact ⟨hb x this, this⟩
theorem zmX {l : List Aut} (h0 : l ≠ []) (hl : l.length ≤ 12) (h : ∀ a ∈ l, frOk a) : ziH (l.map za0) = zhX tO (zqD l) := by
 unfold ziH
 rw [zpm h0 hl h, if_neg (by simp), zeW fun a ha => (h a ha).chk, zjj]
 unfold unfO zqD
 refine zp9 (P := tOk l) (f := tO) ⟨fun t ev ht _ => ?_, fun a b ha hb => ?_, fun t ht => zgY (zcX ht)⟩ (zhk fun a ha => by have := (h a ha).n1; omega)
 ·rw [zmt h (zcX ht)]
  unfold zie
  cases hn : tupS l t ev with
  | none => exact ⟨rfl, fun e => by cases e⟩
  | some n => exact ⟨rfl, fun _ => ⟨rfl, zfw (fun a ha => (h a ha).chk) ht hn⟩⟩
 ·exact zqQ (zgJ ha fun a ha => (h a ha).n2) (zgJ hb fun a ha => (h a ha).n2)
end Go.AI


namespace Go.AI
open Go.Proofs
set_option maxRecDepth 20000
theorem ztg (O : List Heap) : zan Tryz.prog 188 [.i (.v (.int .u64 0))] O (ii 0) [] O := by
 refine zac Tk Tryz.func188 rfl Tryz.call188 Tryz.ntmps188 (Nat.le_of_ble_eq_true rfl) fun E => ?_
 refine zaf Tk Tryz.func188 ?_
 refine gcF Tk Tryz.func188 rfl ?_
 refine gcF Tk Tryz.func188 rfl ?_
 refine gcF Tk Tryz.func188 rfl ?_
 refine zak Tk Tryz.func188 (by decide) ?_
 refine zai Tk (r := ii 0) rfl rfl rfl trivial rfl rfl ?_
 rfl
theorem zth (O : List Heap) : zan Tryz.prog 146 [.i (.v (.int .u64 0))] O (ii 0) [] O := by
 have h := fun O => ztg O
 refine zac Tk Tryz.func146 rfl Tryz.call146 Tryz.ntmps146 (Nat.le_of_ble_eq_true rfl) fun E => ?_
 refine zaf Tk Tryz.func146 ?_
 refine gcF Tk Tryz.func146 rfl ?_
 refine zaj Tk Tryz.func146 (h _) rfl rfl rfl rfl rfl ?_
 refine zai Tk (r := ii 0) rfl rfl rfl trivial rfl rfl ?_
 rfl
theorem ztm (O : List Heap) : zan Tryz.prog 179 [ints [], ii 0, ii 0] O (.tup []) [] O := by
 refine zac Tk Tryz.func179 rfl Tryz.call179 Tryz.ntmps179 (Nat.le_of_ble_eq_true rfl) fun E => ?_
 refine zaf Tk Tryz.func179 ?_
 refine zad ?_
 refine zaf Tk Tryz.func179 ?_
 refine gcF Tk Tryz.func179 rfl ?_
 refine zai Tk (r := .tup []) rfl rfl rfl trivial rfl rfl ?_
 rfl
theorem zs3 (O : List Heap) : zan Tryz.prog 145 [ints [], ii 0, ii 0, ii 0] O (.tup []) [] O := by
 have h := fun O => ztm O
 refine zac Tk Tryz.func145 rfl Tryz.call145 Tryz.ntmps145 (Nat.le_of_ble_eq_true rfl) fun E => ?_
 refine zaf Tk Tryz.func145 ?_
 refine zad ?_
 refine zaf Tk Tryz.func145 ?_
 refine gcT Tk Tryz.func145 rfl ?_
 refine zaj Tk Tryz.func145 (h _) rfl rfl rfl rfl rfl ?_
 refine zai Tk (r := .tup []) rfl rfl rfl trivial rfl rfl ?_
 rfl
theorem zsT (O : List Heap) : zan Tryz.prog 97 [ints []] O (.tup []) [] O := by
 have h1 := fun O => zth O
 have h2 := fun O => zs3 O
 refine zac Tk Tryz.func97 rfl Tryz.call97 Tryz.ntmps97 (Nat.le_of_ble_eq_true rfl) fun E => ?_
 refine zaf Tk Tryz.func97 ?_
 refine zaj Tk Tryz.func97 (h1 _) rfl rfl rfl rfl rfl ?_
 refine zaj Tk Tryz.func97 (h2 _) rfl rfl rfl rfl rfl ?_
 refine zai Tk (r := .tup []) rfl rfl rfl trivial rfl rfl ?_
 rfl
theorem ztz (O : List Heap) : zan Tryz.prog 140 [ints []] O (ints []) [] O := by
 refine zac Tk Tryz.func140 rfl Tryz.call140 Tryz.ntmps140 (Nat.le_of_ble_eq_true rfl) fun E => ?_
 refine zaf Tk Tryz.func140 ?_
 refine gcT Tk Tryz.func140 rfl ?_
 refine zai Tk (r := ints []) rfl rfl rfl trivial rfl rfl ?_
 rfl
theorem zpa (O : List Heap) (l : List Ext) (hl : l.length ≤ 4096) (h0 : (l.flatMap (·.alpha)) = []) : zan Tryz.prog 91 [exts l] O (ints []) [] O := by
 have ha : ∀ m ∈ l, m.alpha = [] := fun m hm => List.eq_nil_iff_forall_not_mem.2 fun x hx => by
  have : x ∈ l.flatMap (·.alpha) := List.mem_flatMap.2 ⟨m, hm, hx⟩
  rw [h0] at this
  cases this
 have h1 := fun O => zsT O
 have h2 := fun O => ztz O
 refine zaC [7] Tk Tryz.func91 rfl Tryz.call91 Tryz.ntmps91 (Nat.le_of_ble_eq_true rfl) fun E => ?_
 refine zaf Tk Tryz.func91 ?_
 refine zad ?_
 refine zaw (zcT 3 15 3 1 rfl rfl rfl) ?_
 refine zag (fun x : Nat => [(3, .osl 0 15), (6, exts l), (7, ii l.length), (8, ii x)]) (fun x => [(15, zaK [])]) (fun _ => O) 21
  (fun x => x ≤ l.length) (fun x => l.length - x) 0 (Nat.zero_le _) ⟨rfl, rfl, rfl, rfl, trivial⟩ rfl ⟨rfl, trivial⟩ rfl rfl ?_
 rintro i hi ih
 refine zaf Tk Tryz.func91 ?_
 refine zae Tk Tryz.func91 rfl (fun g1 => ?_) (fun g1 => ?_)
 ·have h3 : i < l.length := by simpa using g1
  clear g1
  have gm : (l.map extI)[(i : Int).toNat]? = some (extI l[i]) := zah h3
  have hma := ha _ (List.getElem_mem h3)
  have hi1 : ii (IntKind.i64.wrap ((i : Int) + 1)) = ii ((i + 1 : Nat) : Int) := congrArg ii (zaB (n := 4096) (by omega) (by decide))
  generalize l[i] = m at *
  obtain ⟨al, ml, mi, mm, mv, mo⟩ := m
  simp only at hma
  subst hma
  refine zak Tk Tryz.func91 (by exact ⟨by omega, by show (i : Int) < (l.length : Int); omega⟩) ?_
  refine zar Tk Tryz.func91 (gm) ?_
  refine zak Tk Tryz.func91 (by exact ⟨by show (0 + 0) * 8 ≤ 140737488355328; omega, by show 0 + 0 ≤ 9223372036854775807; omega⟩) ?_
  refine zad ?_
  refine ih (i + 1) _ _ h3 (by omega) ⟨rfl, rfl, rfl, hi1, trivial⟩ rfl ⟨rfl, trivial⟩ rfl rfl
 ·refine zax ?_
  refine zaw (zap 15 rfl rfl) ?_
  refine zaw (zcs rfl) ?_
  refine zaf Tk Tryz.func91 ?_
  refine g_go Tk Tryz.func91 ?_
  refine zaj Tk Tryz.func91 (h1 _) rfl rfl rfl rfl rfl ?_
  refine zaj Tk Tryz.func91 (h2 _) rfl rfl rfl rfl rfl ?_
  refine zai Tk (r := ints []) rfl rfl rfl trivial rfl rfl ?_
  rfl
theorem zjV {l : List Ext} (h : l.flatMap (·.alpha) = []) : zbI l = [] := by
 unfold zbI
 rw [h, zen (l := []) (n := 0) (by simp)]
 rfl
theorem zpb (O : List Heap) (l : List Ext) (hl : l.length ≤ 4096) (ha : ∀ m ∈ l, m.alpha.length ≤ 4096) : zan Tryz.prog 91 [exts l] O (ints (zbI l)) [] O := by
 by_cases h : l.flatMap (·.alpha) = []
 ·rw [zjV h]; exact zpa O l hl h
 ·exact zra O l hl ha (List.length_pos_iff.2 h)
end Go.AI


namespace Go.AI
open Go.Proofs
set_option maxRecDepth 20000
set_option maxHeartbeats 4000000 in
theorem zrq {g : Nat} (hg : zeO g) {ty : TypeId} {fr : Nat × Nat} (O : List Heap) (l : List Ext) (hok : ∀ m ∈ l, extOk m) (hl63 : l.length ≤ zam) : zbu g (ptab ty fr) Tryz.prog 33 [exts l] O (znR (zbI l) (ziH l)) [] O := by
 have hck := fun O => zi6 O l hok hl63
 unfold ziH
 by_cases h0 : chkJ l ≠ 0
 ·simp only [if_pos h0]
  refine zaO [] Tk Tryz.func33 rfl Tryz.call33 Tryz.ntmps33 (Nat.le_of_ble_eq_true rfl) fun E hE => ?_
  refine zaf Tk Tryz.func33 ?_
  refine zaj Tk Tryz.func33 (hck _) rfl rfl rfl rfl rfl ?_
  refine zae Tk Tryz.func33 rfl (fun g1 => ?_) (fun g1 => ?_)
  rotate_left
  ·exact absurd (bneF g1) h0
  refine zao Tk (r := _) rfl rfl rfl trivial rfl rfl ?_
  exact zty
 have h0 : chkJ l = 0 := Classical.byContradiction h0
 have hj := zsB hok h0
 rw [h0] at hck
 simp only [h0, ne_eq, not_true_eq_false, if_false]
 have hev := fun O => zpb O l (by have := hj.len; omega) (zg8 hj).2
 have hun := fun O ho => znN hg (ty := ty) (fr := fr) O l (zbI l) (zfA l) 0 1 ho hj (zg8 hj).1 (zn0 hj)
 have hl12 := hj.len
 have hv16 := zsm hj
 have hp0 : 0 < l.length := List.length_pos_iff.2 hj.pos
 have g0 : (l.map extI)[(0 : Int).toNat]? = some (extI l[0]) := zah (i := 0) hp0
 have e0 : zcU l = l[0].vars := by
  unfold zcU
  rw [List.getD_eq_getElem?_getD, List.getElem?_eq_getElem hp0]; rfl
 have hst : zfA l = ⟨l.map (·.init), (l[0].vars).map (·.init)⟩ := by unfold zfA; rw [e0]
 rw [hst] at hun ⊢
 rw [e0] at hv16
 generalize l[0] = m0 at *
 generalize zbI l = ev at *
 refine zaO [15] Tk Tryz.func33 rfl Tryz.call33 Tryz.ntmps33 (Nat.le_of_ble_eq_true rfl) fun E hE => ?_
 refine zaf Tk Tryz.func33 ?_
 refine zaj Tk Tryz.func33 (hck _) rfl rfl rfl rfl rfl ?_
 refine gcF Tk Tryz.func33 rfl ?_
 refine zad ?_
 refine zaw (zaP 5 30 3 1 (pre := []) (post := [.i (.v (.slice none 0 0))]) rfl rfl rfl) ?_
 refine zag (fun i : Nat => [(1, .own 0 1 0 0), (2, .own 0 2 0 0), (3, .i (.v (.slice none 0 0))), (4, ii 0), (5, .own 0 5 0 0), (19, exts l), (20, ii l.length), (21, ii i)]) (fun i => [(1, .box [exts l]), (2, .box [.i (.v (.slice none 0 0)), ii 0, .i (.v (.slice none 0 0)), .i (.v (.slice none 0 0))]), (5, .box [.osl 0 30, .i (.v (.slice none 0 0))]), (30, zaK ((l.take i).map (·.init)))]) (fun _ => O) 62
  (fun i => i ≤ l.length) (fun i => l.length - i) 0 (Nat.zero_le _) ⟨rfl, rfl, rfl, rfl, rfl, rfl, rfl, rfl, trivial⟩ rfl ⟨rfl, rfl, rfl, rfl, trivial⟩ rfl rfl ?_
 rintro i hi ih
 refine zaf Tk Tryz.func33 ?_
 refine zae Tk Tryz.func33 rfl (fun g1 => ?_) (fun g1 => ?_)
 ·have h1 : i < l.length := by simpa using g1
  clear g1
  have gm : (l.map extI)[(i : Int).toNat]? = some (extI l[i]) := zah h1
  have e : (l.take (i + 1)).map (·.init) = (l.take i).map (·.init) ++ [l[i].init] := zcA h1
  have hal : ((l.take i).map (·.init)).length = i := by simp; omega
  generalize l[i] = m at *
  generalize (l.take i).map (·.init) = acc at *
  refine zak Tk Tryz.func33 (by exact ⟨by omega, by show (i : Int) < (l.length : Int); omega⟩) ?_
  refine zar Tk Tryz.func33 (gm) ?_
  refine zak Tk Tryz.func33 (by exact ⟨by show (acc.length + 1) * 8 ≤ 140737488355328; omega, by show acc.length + 1 ≤ 9223372036854775807; omega⟩) ?_
  refine zad ?_
  refine ih (i + 1) _ _ h1 (by omega) ⟨rfl, rfl, rfl, rfl, rfl, rfl, rfl, congrArg ii (zaB (n := 4096) (by omega) (by decide)), trivial⟩ rfl ⟨rfl, rfl, rfl, by rw [e]; exact congrArg some (zaR acc m.init), trivial⟩ rfl rfl
 have h1 : l.length ≤ i := by simpa using g1
 rw [List.take_of_length_le h1]
 clear ih g1
 refine zak Tk Tryz.func33 (by exact ⟨by omega, by show (0 : Int) < (l.length : Int); omega⟩) ?_
 refine zar Tk Tryz.func33 (g0) ?_
 refine zad ?_
 refine zaw (zaP 5 47 3 1 (pre := [.osl 0 30]) (post := []) rfl rfl rfl) ?_
 refine zag (fun i : Nat => [(1, .own 0 1 0 0), (2, .own 0 2 0 0), (3, .i (.v (.slice none 0 0))), (4, ii 0), (5, .own 0 5 0 0), (36, vrs m0.vars), (37, ii m0.vars.length), (38, ii i)]) (fun i => [(1, .box [exts l]), (2, .box [.i (.v (.slice none 0 0)), ii 0, .i (.v (.slice none 0 0)), .i (.v (.slice none 0 0))]), (5, .box [.osl 0 30, .osl 0 47]), (30, zaK (l.map (·.init))), (47, zaK ((m0.vars.take i).map (·.init)))]) (fun _ => O) 62
  (fun i => i ≤ m0.vars.length) (fun i => m0.vars.length - i) 0 (Nat.zero_le _) ⟨rfl, rfl, rfl, rfl, rfl, rfl, rfl, rfl, trivial⟩ rfl ⟨rfl, rfl, rfl, rfl, rfl, trivial⟩ rfl rfl ?_
 rintro i hi ih
 refine zaf Tk Tryz.func33 ?_
 refine zae Tk Tryz.func33 rfl (fun g1 => ?_) (fun g1 => ?_)
 ·have h1 : i < m0.vars.length := by simpa using g1
  clear g1
  have gm : (m0.vars.map vrI)[(i : Int).toNat]? = some (vrI m0.vars[i]) := zah h1
  have e : (m0.vars.take (i + 1)).map (·.init) = (m0.vars.take i).map (·.init) ++ [m0.vars[i].init] := zcA h1
  have hal : ((m0.vars.take i).map (·.init)).length = i := by simp; omega
  generalize m0.vars[i] = v at *
  generalize (m0.vars.take i).map (·.init) = acc at *
  refine zak Tk Tryz.func33 (by exact ⟨by omega, by show (i : Int) < (m0.vars.length : Int); omega⟩) ?_
  refine zar Tk Tryz.func33 (gm) ?_
  refine zak Tk Tryz.func33 (by exact ⟨by show (acc.length + 1) * 8 ≤ 140737488355328; omega, by show acc.length + 1 ≤ 9223372036854775807; omega⟩) ?_
  refine zad ?_
  refine ih (i + 1) _ _ h1 (by omega) ⟨rfl, rfl, rfl, rfl, rfl, rfl, rfl, congrArg ii (zaB (n := 16) (by omega) (by decide)), trivial⟩ rfl ⟨rfl, rfl, rfl, rfl, by rw [e]; exact congrArg some (zaR acc v.init), trivial⟩ rfl rfl
 have h1 : m0.vars.length ≤ i := by simpa using g1
 rw [List.take_of_length_le h1]
 clear ih g1
 refine zax ?_
 refine zaw (zap 30 rfl rfl) ?_
 refine zaw (zap 47 rfl rfl) ?_
 refine zaw (zcs rfl) ?_
 generalize unfO l ev ⟨l.map (·.init), m0.vars.map (·.init)⟩ = R at *
 cases R with
 | error e =>
  refine zaf Tk Tryz.func33 ?_
  refine g_go Tk Tryz.func33 ?_
  refine zaq Tk Tryz.func33 zay rfl ?_
  refine zaN Tk (fun _ => hev _) rfl rfl rfl ?_
  refine zhr Tk hE (hun _ rfl) rfl rfl rfl rfl ?_
  refine zex Tk rfl rfl rfl ?_
  refine zav Tk Tryz.func33 (by kernel_rfl) ?_
  refine zao Tk (r := _) rfl rfl rfl trivial rfl rfl ?_
  exact CoD.refl _
 | ok U =>
  obtain ⟨us, um, ue⟩ := U
  refine zaf Tk Tryz.func33 ?_
  refine g_go Tk Tryz.func33 ?_
  refine zaq Tk Tryz.func33 zay rfl ?_
  refine zaN Tk (fun _ => hev _) rfl rfl rfl ?_
  refine zhr Tk hE (hun _ rfl) rfl rfl rfl rfl ?_
  refine zex Tk rfl rfl rfl ?_
  refine zav Tk Tryz.func33 (by kernel_rfl) ?_
  refine zao Tk (r := _) rfl rfl rfl trivial rfl rfl ?_
  exact CoD.refl _
end Go.AI


namespace Go.AI
open Go.Proofs
set_option maxRecDepth 20000
structure P3 where
 s0 : Int
 s1 : Int
 s2 : Int
 a0 : Int
 b0 : Int
 t0 : Nat → Int
 a1 : Int
 b1 : Int
 t1 : Nat → Int
 a2 : Int
 b2 : Int
 t2 : Nat → Int
abbrev p3S (x : P3) : List D := [u8D x.s0, u8D x.s1, u8D x.s2]
abbrev p3G (x : P3) : List D := [u8D x.a0, u8D x.b0, u8D (x.t0 0), u8D (x.t0 1), u8D (x.t0 2), u8D (x.t0 3), u8D (x.t0 4), u8D (x.t0 5), u8D (x.t0 6), u8D (x.t0 7), u8D (x.t0 8), u8D (x.t0 9), u8D (x.t0 10), u8D (x.t0 11), u8D (x.t0 12), u8D (x.t0 13), u8D (x.t0 14), u8D (x.t0 15), u8D (x.t0 16), u8D (x.t0 17), u8D (x.t0 18), u8D (x.t0 19), u8D (x.t0 20), u8D (x.t0 21), u8D (x.t0 22), u8D (x.t0 23), u8D (x.t0 24), u8D x.a1, u8D x.b1, u8D (x.t1 0), u8D (x.t1 1), u8D (x.t1 2), u8D (x.t1 3), u8D (x.t1 4), u8D (x.t1 5), u8D (x.t1 6), u8D (x.t1 7), u8D (x.t1 8), u8D (x.t1 9), u8D (x.t1 10), u8D (x.t1 11), u8D (x.t1 12), u8D (x.t1 13), u8D (x.t1 14), u8D (x.t1 15), u8D (x.t1 16), u8D (x.t1 17), u8D (x.t1 18), u8D (x.t1 19), u8D (x.t1 20), u8D (x.t1 21), u8D (x.t1 22), u8D (x.t1 23), u8D (x.t1 24), u8D x.a2, u8D x.b2, u8D (x.t2 0), u8D (x.t2 1), u8D (x.t2 2), u8D (x.t2 3), u8D (x.t2 4), u8D (x.t2 5), u8D (x.t2 6), u8D (x.t2 7), u8D (x.t2 8), u8D (x.t2 9), u8D (x.t2 10), u8D (x.t2 11), u8D (x.t2 12), u8D (x.t2 13), u8D (x.t2 14), u8D (x.t2 15), u8D (x.t2 16), u8D (x.t2 17), u8D (x.t2 18), u8D (x.t2 19), u8D (x.t2 20), u8D (x.t2 21), u8D (x.t2 22), u8D (x.t2 23), u8D (x.t2 24)]
structure p3Ok (x : P3) : Prop where
 g0 : zjL x.a0 x.t0
 g1 : zjL x.a1 x.t1
 g2 : zjL x.a2 x.t2
abbrev zs7 (l : List Aut) : Ob := .arr 39 4 l.length (l.map autM) true
abbrev zs6 (l : List Ext) : Ob := .arr 77 6 l.length (l.map extI) true
theorem zfR (l : List Aut) (a : Aut) : Ob.arr 39 4 (l.length + 1) (l.map autM ++ [autM a]) true = zs7 (l ++ [a]) := by simp
theorem zfP (l : List Ext) (a : Ext) : Ob.arr 77 6 (l.length + 1) (l.map extI ++ [extI a]) true = zs6 (l ++ [a]) := by simp
theorem zst {a : Aut} (h : chkA a = 0) (hs : a.states ≤ 5) : a.edges.length ≤ 160 := by
 obtain ⟨c1, _, _, c4⟩ := zba h
 obtain ⟨es1, eb, _⟩ := za8 c4
 have ha := (zaD c1).2.1
 have h1 := zcG (n := 160) (l := a.edges.map fun e => (e.1 * 32 + e.2.1).toNat) ?_ ?_
 ·rwa [List.length_map] at h1
 ·unfold List.Nodup
  rw [List.pairwise_map]
  refine es1.imp_of_mem fun {x y} hx hy hlt e => ?_
  have bx := eb x hx
  have by' := eb y hy
  have ax := ha _ bx.2.2
  have ay := ha _ by'.2.2
  have e : (x.1 * 32 + x.2.1).toNat = (y.1 * 32 + y.2.1).toNat := e
  unfold ltE at hlt
  omega
 ·intro y hy
  obtain ⟨x, hx, rfl⟩ := List.mem_map.1 hy
  have bx := eb x hx
  have ax := ha _ bx.2.2
  show (x.1 * 32 + x.2.1).toNat < 160
  omega
theorem zmR {s : Int} {gs gm : Int} {gt : Nat → Int} (hg : zjL gs gt) (h0 : (mkA (za1 s) gs gm gt).states ≠ 0) : frOk (mkA (za1 s) gs gm gt) := by
 obtain ⟨e1, e2, e3⟩ := zgg s
 obtain ⟨p1, p2, p3, p4⟩ := zd6 (gs := gs) (gm := gm) e1 e2 e3 hg.2
 obtain ⟨_, ⟨n, hn, hga⟩, _⟩ := ziB (gs := gs) (gm := gm) e1 e2 e3 hg.2
 have hs := hga.st
 have he := zst p1 p3
 have hp := (zba p1).2.1
 exact ⟨⟨p2.ed, p2.al, p2.mkd, p1⟩, by omega, by omega, by omega⟩
theorem zf8 {a : Aut} (hc : chkA a = 0) (h : a.states = 0) : ziL a = (zh9, 12) := by
 unfold ziL
 rw [if_neg (by rw [hc]; simp), if_pos h]
theorem znU (a : Aut) (l : List Aut) : (zdv (a :: l)).length = a.states.toNat * (zdv l).length := by
 simp only [zdv]
 generalize a.states.toNat = n
 induction n with
 | zero => simp
 | succ n ih => rw [List.range_succ, List.flatMap_append, List.length_append, ih]; simp [Nat.succ_mul]
theorem znV {l : List Aut} (hl : l.length ≤ 3) (h : ∀ a ∈ l, a.states ≤ 5) : (zdv l).length ≤ 125 := by
 have key : ∀ k : List Aut, (∀ a ∈ k, a.states ≤ 5) → (zdv k).length ≤ 5 ^ k.length := by
  intro k
  induction k with
  | nil => intro _; simp [zdv]
  | cons a k ih =>
   intro hk
   have h1 := ih fun b hb => hk b (by simp [hb])
   have h2 := hk a (by simp)
   rw [znU, List.length_cons, Nat.pow_succ, Nat.mul_comm (5 ^ k.length)]
   exact Nat.mul_le_mul (by omega) h1
 exact Nat.le_trans (key l h) (Nat.le_trans (Nat.pow_le_pow_right (by decide) hl) (by decide))
set_option maxHeartbeats 16000000 in
theorem zqC {g : Nat} (hg : zeO g) {ty : TypeId} {fr : Nat × Nat} (O : List Heap) (x : P3) (n : Int) (h : p3Ok x) (hn : 0 ≤ n ∧ n ≤ 255) : zbu g (ptab ty fr) Tryz.prog 7 [.agg (p3S x), .agg (p3G x), u8D n] O (bb true) [] O := by
 have hk := fun O => zsh hg (ty := ty) (fr := fr) O
 obtain ⟨kk, hkk, hk3⟩ : ∃ kk : Nat, IntKind.i64.wrap (1 + IntKind.i64.wrap (n.tmod 3)) = (kk : Int) ∧ 1 ≤ kk ∧ kk ≤ 3 := by
  rw [Int.tmod_eq_emod_of_nonneg hn.1]
  have h1 : 0 ≤ n % 3 ∧ n % 3 < 3 := ⟨Int.emod_nonneg _ (by decide), Int.emod_lt_of_pos _ (by decide)⟩
  have w1 : IntKind.i64.wrap (n % 3) = n % 3 := w64 (by omega) (by omega)
  rw [w1, w64 (by omega) (by omega)]
  exact ⟨(1 + n % 3).toNat, by omega, by omega, by omega⟩
 have d0 := fun O => zhZ O x.s0
 have m0 := fun O => let e := zgg x.s0; let p := ziB (gs := x.a0) (gm := x.b0) e.1 e.2.1 e.2.2 h.g0.2; zoE O (za1 x.s0) x.a0 x.b0 x.t0 e.2.2 h.g0.1 p.1.1 p.1.2
 have q0 : chkA (mkA (za1 x.s0) x.a0 x.b0 x.t0) = 0 ∧ smallA (mkA (za1 x.s0) x.a0 x.b0 x.t0) ∧ (mkA (za1 x.s0) x.a0 x.b0 x.t0).states ≤ 5 := let e := zgg x.s0; let p := zd6 (gs := x.a0) (gm := x.b0) e.1 e.2.1 e.2.2 h.g0.2; ⟨p.1, p.2.1, p.2.2.1⟩
 have f0 : (mkA (za1 x.s0) x.a0 x.b0 x.t0).states ≠ 0 → frOk (mkA (za1 x.s0) x.a0 x.b0 x.t0) ∧ ∀ O, zan Tryz.prog 31 [autD (mkA (za1 x.s0) x.a0 x.b0 x.t0)] O (.tup [extD (za0 (mkA (za1 x.s0) x.a0 x.b0 x.t0)), ii 0]) [] O := fun h0 => ⟨zmR h.g0 h0, fun O => by
  have := zg4 O (mkA (za1 x.s0) x.a0 x.b0 x.t0) q0.2.1.ed q0.2.1.al q0.2.1.mkd
  rwa [zhP (zmR h.g0 h0)] at this⟩
 have z0 : (mkA (za1 x.s0) x.a0 x.b0 x.t0).states = 0 → ∀ O, zan Tryz.prog 31 [autD (mkA (za1 x.s0) x.a0 x.b0 x.t0)] O (.tup [extD zh9, ii 12]) [] O := fun h0 O => by
  have := zg4 O (mkA (za1 x.s0) x.a0 x.b0 x.t0) q0.2.1.ed q0.2.1.al q0.2.1.mkd
  rwa [zf8 q0.1 h0] at this
 generalize mkA (za1 x.s0) x.a0 x.b0 x.t0 = A0 at *
 generalize za1 x.s0 = ev0 at *
 have d1 := fun O => zhZ O x.s1
 have m1 := fun O => let e := zgg x.s1; let p := ziB (gs := x.a1) (gm := x.b1) e.1 e.2.1 e.2.2 h.g1.2; zoE O (za1 x.s1) x.a1 x.b1 x.t1 e.2.2 h.g1.1 p.1.1 p.1.2
 have q1 : chkA (mkA (za1 x.s1) x.a1 x.b1 x.t1) = 0 ∧ smallA (mkA (za1 x.s1) x.a1 x.b1 x.t1) ∧ (mkA (za1 x.s1) x.a1 x.b1 x.t1).states ≤ 5 := let e := zgg x.s1; let p := zd6 (gs := x.a1) (gm := x.b1) e.1 e.2.1 e.2.2 h.g1.2; ⟨p.1, p.2.1, p.2.2.1⟩
 have f1 : (mkA (za1 x.s1) x.a1 x.b1 x.t1).states ≠ 0 → frOk (mkA (za1 x.s1) x.a1 x.b1 x.t1) ∧ ∀ O, zan Tryz.prog 31 [autD (mkA (za1 x.s1) x.a1 x.b1 x.t1)] O (.tup [extD (za0 (mkA (za1 x.s1) x.a1 x.b1 x.t1)), ii 0]) [] O := fun h0 => ⟨zmR h.g1 h0, fun O => by
  have := zg4 O (mkA (za1 x.s1) x.a1 x.b1 x.t1) q1.2.1.ed q1.2.1.al q1.2.1.mkd
  rwa [zhP (zmR h.g1 h0)] at this⟩
 have z1 : (mkA (za1 x.s1) x.a1 x.b1 x.t1).states = 0 → ∀ O, zan Tryz.prog 31 [autD (mkA (za1 x.s1) x.a1 x.b1 x.t1)] O (.tup [extD zh9, ii 12]) [] O := fun h0 O => by
  have := zg4 O (mkA (za1 x.s1) x.a1 x.b1 x.t1) q1.2.1.ed q1.2.1.al q1.2.1.mkd
  rwa [zf8 q1.1 h0] at this
 generalize mkA (za1 x.s1) x.a1 x.b1 x.t1 = A1 at *
 generalize za1 x.s1 = ev1 at *
 have d2 := fun O => zhZ O x.s2
 have m2 := fun O => let e := zgg x.s2; let p := ziB (gs := x.a2) (gm := x.b2) e.1 e.2.1 e.2.2 h.g2.2; zoE O (za1 x.s2) x.a2 x.b2 x.t2 e.2.2 h.g2.1 p.1.1 p.1.2
 have q2 : chkA (mkA (za1 x.s2) x.a2 x.b2 x.t2) = 0 ∧ smallA (mkA (za1 x.s2) x.a2 x.b2 x.t2) ∧ (mkA (za1 x.s2) x.a2 x.b2 x.t2).states ≤ 5 := let e := zgg x.s2; let p := zd6 (gs := x.a2) (gm := x.b2) e.1 e.2.1 e.2.2 h.g2.2; ⟨p.1, p.2.1, p.2.2.1⟩
 have f2 : (mkA (za1 x.s2) x.a2 x.b2 x.t2).states ≠ 0 → frOk (mkA (za1 x.s2) x.a2 x.b2 x.t2) ∧ ∀ O, zan Tryz.prog 31 [autD (mkA (za1 x.s2) x.a2 x.b2 x.t2)] O (.tup [extD (za0 (mkA (za1 x.s2) x.a2 x.b2 x.t2)), ii 0]) [] O := fun h0 => ⟨zmR h.g2 h0, fun O => by
  have := zg4 O (mkA (za1 x.s2) x.a2 x.b2 x.t2) q2.2.1.ed q2.2.1.al q2.2.1.mkd
  rwa [zhP (zmR h.g2 h0)] at this⟩
 have z2 : (mkA (za1 x.s2) x.a2 x.b2 x.t2).states = 0 → ∀ O, zan Tryz.prog 31 [autD (mkA (za1 x.s2) x.a2 x.b2 x.t2)] O (.tup [extD zh9, ii 12]) [] O := fun h0 O => by
  have := zg4 O (mkA (za1 x.s2) x.a2 x.b2 x.t2) q2.2.1.ed q2.2.1.al q2.2.1.mkd
  rwa [zf8 q2.1 h0] at this
 generalize mkA (za1 x.s2) x.a2 x.b2 x.t2 = A2 at *
 generalize za1 x.s2 = ev2 at *
 have hend : ∀ L : List Aut, L ≠ [] → (∀ a ∈ L, frOk a) → (∀ a ∈ L, a ∈ [A0, A1, A2]) → L.length ≤ 3 → ∃ V, ziH (L.map za0) = .ok (V.map tO) ∧ V.sts.length ≤ 4096 ∧ V.mkl.length ≤ zam ∧ V.eds.length ≤ zam ∧ (evL L).length ≤ zam ∧ (∀ t ∈ V.sts, t.length ≤ zam) ∧ (∀ O, zbu g (ptab ty fr) Tryz.prog 32 [auts L] O (.tup [autD (unfA (evL L) V), .i (zqp V.sts), ii 0]) [] O) ∧
   ∀ O, zbu g (ptab ty fr) Tryz.prog 33 [exts (L.map za0)] O (.tup [autD (unfA (evL L) V), zmN (V.sts.map tO), ii 0]) [] O := by
  intro L hL0 hfr hin hL3
  have hq : ∀ a ∈ L, chkA a = 0 ∧ smallA a ∧ a.states ≤ 5 := fun a ha => by
   have := hin a ha
   simp only [List.mem_cons, List.not_mem_nil, or_false] at this
   rcases this with rfl | rfl | rfl
   ·exact q0
   ·exact q1
   ·exact q2
  have hV := znV hL3 fun a ha => (hq a ha).2.2
  obtain ⟨V, hp, hU⟩ := zon (fun a ha => (hq a ha).1) (fun a ha => by have := (hfr a ha).n1; omega) (by omega : (zdv L).length < 4096)
  have hj := zmX hL0 (by omega) hfr
  rw [hp] at hj
  have hev := zjZ fun a ha => (hq a ha).1
  have hel := zbt (by decide) hev
  have hVl : V.sts.length ≤ 125 := Nat.le_trans (zc3 hU.nd fun s hs => zc4 (hU.ok s hs)) hV
  have hlens := zqa hU (N := 32) (by omega)
  have hed : V.eds.length ≤ 32 * 125 := Nat.le_trans hlens.2 (Nat.mul_le_mul_left _ hVl)
  refine ⟨V, hj, by omega, by simp only [zam]; omega, by simp only [zam]; omega, by simp only [zam]; omega, fun t ht => by rw [zcX (hU.ok t ht)]; simp only [zam]; omega, fun O => ?_, fun O => ?_⟩
  ·exact zsN hg O L hL0 (by omega) (fun a ha => (hq a ha).1) (fun a ha => (hq a ha).2.1) (fun a ha => by have := (hfr a ha).n1; omega) (fun a ha => (hfr a ha).n2) (by omega) V hp
  ·have := zrq hg (ty := ty) (fr := fr) O (L.map za0) (fun m hm => by
    obtain ⟨a, ha, rfl⟩ := List.mem_map.1 hm
    exact zts (hfr a ha).toautOk) (by rw [List.length_map]; simp only [zam]; omega)
   rw [hj, zeW fun a ha => (hq a ha).1] at this
   have e : znR (evL L) (zhX tO (.ok V)) = .tup [autD (unfA (evL L) V), zmN (V.sts.map tO), ii 0] := by
    show D.tup [autD ⟨evL L, ((V.sts.map tO).length : Int), V.mkl, V.eds⟩, zmN (V.sts.map tO), ii 0] = _
    rw [List.length_map]
    rfl
   rwa [e] at this
 clear q0 q1 q2 h
 obtain ⟨s0, s1, s2, a0, b0, t0, a1, b1, t1, a2, b2, t2⟩ := x
 simp only at d0 d1 d2 m0 m1 m2
 refine zaO [15, 16, 17] Tk Tryz.func7 rfl Tryz.call7 Tryz.ntmps7 (Nat.le_of_ble_eq_true rfl) fun E hE => ?_
 refine zaf Tk Tryz.func7 ?_
 refine zbe Tk Tryz.func7 hE (hk _) rfl rfl rfl rfl rfl rfl ?_
 refine gcF Tk Tryz.func7 rfl ?_
 refine zad ?_
 refine zaw (zcT 7 53 39 4 rfl rfl rfl) ?_
 refine zaw (zcT 8 57 77 6 rfl rfl rfl) ?_
 refine zag (fun i : Nat => [(2, u8D n), (3, .own 0 3 0 0), (4, .own 0 4 0 0), (7, .osl 0 53), (8, .osl 0 57), (9, ii i)])
  (fun i => [(3, .box (p3S ⟨s0, s1, s2, a0, b0, t0, a1, b1, t1, a2, b2, t2⟩)), (4, .box (p3G ⟨s0, s1, s2, a0, b0, t0, a1, b1, t1, a2, b2, t2⟩)), (53, zs7 ([A0, A1, A2].take i)), (57, zs6 (([A0, A1, A2].take i).map za0))]) (fun _ => O) 115
  (fun i => i ≤ kk ∧ ∀ a ∈ [A0, A1, A2].take i, frOk a) (fun i => kk - i) 0 ⟨Nat.zero_le _, by simp⟩ ⟨rfl, rfl, rfl, rfl, rfl, rfl, trivial⟩ rfl ⟨rfl, rfl, rfl, rfl, trivial⟩ rfl rfl ?_
 rintro i ⟨hi, hall⟩ ih
 refine zaf Tk Tryz.func7 ?_
 refine zak Tk Tryz.func7 (by decide) ?_
 refine zae Tk Tryz.func7 rfl (fun g1 => ?_) (fun g1 => ?_)
 ·have g1 : (i : Int) < IntKind.i64.wrap (1 + IntKind.i64.wrap (n.tmod 3)) := of_decide_eq_true g1
  rw [hkk] at g1
  have hi3 : i = 0 ∨ i = 1 ∨ i = 2 := by omega
  have hstep : ∀ a, frOk a → ∀ b ∈ [A0, A1, A2].take i ++ [a], frOk b := fun a ha b hb => by
   rcases List.mem_append.1 hb with hb | hb
   ·exact hall b hb
   ·rw [List.mem_singleton] at hb; subst hb; exact ha
  rcases hi3 with rfl | rfl | rfl
  ·have hk1 : ii (IntKind.i64.wrap (((0 : Nat) : Int) + 1)) = ii ((0 + 1 : Nat) : Int) := congrArg ii (zaB (n := 4096) (by omega) (by decide))
   have c30 := d0
   have c29 := m0
   have hfr := f0
   have hfz := z0
   have htk : [A0, A1, A2].take (0 + 1) = [A0, A1, A2].take 0 ++ [A0] := rfl
   have hlen : ([A0, A1, A2].take 0).length = 0 := rfl
   have hlenE : (([A0, A1, A2].take 0).map za0).length = 0 := rfl
   generalize [A0, A1, A2].take 0 = L at *
   refine zaq Tk Tryz.func7 zay rfl ?_
   refine zat Tk (by exact ⟨by decide, by decide⟩) ?_
   refine zaN Tk (fun _ => c30 _) rfl rfl rfl ?_
   refine zat Tk (by exact ⟨by decide, by decide⟩) ?_
   refine zaN Tk (fun _ => c29 _) rfl rfl rfl ?_
   refine zex Tk rfl rfl rfl ?_
   refine zav Tk Tryz.func7 (by kernel_rfl) ?_
   by_cases hz : A0.states = 0
   ·have c31 := hfz hz
    obtain ⟨al, st, mk, es⟩ := A0
    simp only at hz
    subst hz
    refine zaj Tk Tryz.func7 (c31 _) rfl rfl rfl rfl rfl ?_
    refine gcT Tk Tryz.func7 rfl ?_
    refine zai Tk (r := bb true) rfl rfl rfl trivial rfl rfl ?_
    rfl
   ·have c31 := (hfr hz).2
    have hfrk := (hfr hz).1
    have hst := hstep _ hfrk
    obtain ⟨al, st, mk, es⟩ := A0
    simp only at hz
    refine zaj Tk Tryz.func7 (c31 _) rfl rfl rfl rfl rfl ?_
    refine zae Tk Tryz.func7 rfl (fun h => absurd h (by simpa using hz)) (fun _ => ?_)
    refine gcF Tk Tryz.func7 rfl ?_
    refine zaq Tk Tryz.func7 zay rfl ?_
    refine zqo Tk ?_
    refine zhb Tk (by exact ⟨by show (L.length + 1) * 80 ≤ 140737488355328; omega, by show L.length + 1 ≤ 9223372036854775807; omega⟩) ?_
    refine zj3 Tk (p := ⟨[(53, .osl 0 53), (50, .dead), (7, .dead)], [(53, .arr 39 4 (L.length + 1) (L.map autM ++ [autM ⟨al, st, mk, es⟩]) true)], some 53⟩) rfl rfl rfl ?_
    refine zhb Tk (by exact ⟨by show ((L.map za0).length + 1) * 112 ≤ 140737488355328; omega, by show (L.map za0).length + 1 ≤ 9223372036854775807; omega⟩) ?_
    refine zj3 Tk (p := ⟨[(57, .osl 0 57), (54, .dead), (8, .dead)], [(57, .arr 77 6 ((L.map za0).length + 1) ((L.map za0).map extI ++ [extI (za0 ⟨al, st, mk, es⟩)]) true)], some 57⟩) rfl rfl rfl ?_
    refine zlB Tk Tryz.func7 (by kernel_rfl) (GM.h ?_)
    refine zad ?_
    refine ih (0 + 1) _ _ ⟨by omega, by rw [htk]; exact hst⟩ (by omega) ⟨rfl, rfl, rfl, rfl, rfl, hk1, trivial⟩ rfl ⟨rfl, rfl, ?_, ?_, trivial⟩ rfl rfl
    ·rw [htk]
     exact congrArg some (zfR _ _)
    ·rw [htk, List.map_append]
     exact congrArg some (zfP _ _)
  ·have hk1 : ii (IntKind.i64.wrap (((1 : Nat) : Int) + 1)) = ii ((1 + 1 : Nat) : Int) := congrArg ii (zaB (n := 4096) (by omega) (by decide))
   have c30 := d1
   have c29 := m1
   have hfr := f1
   have hfz := z1
   have htk : [A0, A1, A2].take (1 + 1) = [A0, A1, A2].take 1 ++ [A1] := rfl
   have hlen : ([A0, A1, A2].take 1).length = 1 := rfl
   have hlenE : (([A0, A1, A2].take 1).map za0).length = 1 := rfl
   generalize [A0, A1, A2].take 1 = L at *
   refine zaq Tk Tryz.func7 zay rfl ?_
   refine zat Tk (by exact ⟨by decide, by decide⟩) ?_
   refine zaN Tk (fun _ => c30 _) rfl rfl rfl ?_
   refine zat Tk (by exact ⟨by decide, by decide⟩) ?_
   refine zaN Tk (fun _ => c29 _) rfl rfl rfl ?_
   refine zex Tk rfl rfl rfl ?_
   refine zav Tk Tryz.func7 (by kernel_rfl) ?_
   by_cases hz : A1.states = 0
   ·have c31 := hfz hz
    obtain ⟨al, st, mk, es⟩ := A1
    simp only at hz
    subst hz
    refine zaj Tk Tryz.func7 (c31 _) rfl rfl rfl rfl rfl ?_
    refine gcT Tk Tryz.func7 rfl ?_
    refine zai Tk (r := bb true) rfl rfl rfl trivial rfl rfl ?_
    rfl
   ·have c31 := (hfr hz).2
    have hfrk := (hfr hz).1
    have hst := hstep _ hfrk
    obtain ⟨al, st, mk, es⟩ := A1
    simp only at hz
    refine zaj Tk Tryz.func7 (c31 _) rfl rfl rfl rfl rfl ?_
    refine zae Tk Tryz.func7 rfl (fun h => absurd h (by simpa using hz)) (fun _ => ?_)
    refine gcF Tk Tryz.func7 rfl ?_
    refine zaq Tk Tryz.func7 zay rfl ?_
    refine zqo Tk ?_
    refine zhb Tk (by exact ⟨by show (L.length + 1) * 80 ≤ 140737488355328; omega, by show L.length + 1 ≤ 9223372036854775807; omega⟩) ?_
    refine zj3 Tk (p := ⟨[(53, .osl 0 53), (50, .dead), (7, .dead)], [(53, .arr 39 4 (L.length + 1) (L.map autM ++ [autM ⟨al, st, mk, es⟩]) true)], some 53⟩) rfl rfl rfl ?_
    refine zhb Tk (by exact ⟨by show ((L.map za0).length + 1) * 112 ≤ 140737488355328; omega, by show (L.map za0).length + 1 ≤ 9223372036854775807; omega⟩) ?_
    refine zj3 Tk (p := ⟨[(57, .osl 0 57), (54, .dead), (8, .dead)], [(57, .arr 77 6 ((L.map za0).length + 1) ((L.map za0).map extI ++ [extI (za0 ⟨al, st, mk, es⟩)]) true)], some 57⟩) rfl rfl rfl ?_
    refine zlB Tk Tryz.func7 (by kernel_rfl) (GM.h ?_)
    refine zad ?_
    refine ih (1 + 1) _ _ ⟨by omega, by rw [htk]; exact hst⟩ (by omega) ⟨rfl, rfl, rfl, rfl, rfl, hk1, trivial⟩ rfl ⟨rfl, rfl, ?_, ?_, trivial⟩ rfl rfl
    ·rw [htk]
     exact congrArg some (zfR _ _)
    ·rw [htk, List.map_append]
     exact congrArg some (zfP _ _)
  ·have hk1 : ii (IntKind.i64.wrap (((2 : Nat) : Int) + 1)) = ii ((2 + 1 : Nat) : Int) := congrArg ii (zaB (n := 4096) (by omega) (by decide))
   have c30 := d2
   have c29 := m2
   have hfr := f2
   have hfz := z2
   have htk : [A0, A1, A2].take (2 + 1) = [A0, A1, A2].take 2 ++ [A2] := rfl
   have hlen : ([A0, A1, A2].take 2).length = 2 := rfl
   have hlenE : (([A0, A1, A2].take 2).map za0).length = 2 := rfl
   generalize [A0, A1, A2].take 2 = L at *
   refine zaq Tk Tryz.func7 zay rfl ?_
   refine zat Tk (by exact ⟨by decide, by decide⟩) ?_
   refine zaN Tk (fun _ => c30 _) rfl rfl rfl ?_
   refine zat Tk (by exact ⟨by decide, by decide⟩) ?_
   refine zaN Tk (fun _ => c29 _) rfl rfl rfl ?_
   refine zex Tk rfl rfl rfl ?_
   refine zav Tk Tryz.func7 (by kernel_rfl) ?_
   by_cases hz : A2.states = 0
   ·have c31 := hfz hz
    obtain ⟨al, st, mk, es⟩ := A2
    simp only at hz
    subst hz
    refine zaj Tk Tryz.func7 (c31 _) rfl rfl rfl rfl rfl ?_
    refine gcT Tk Tryz.func7 rfl ?_
    refine zai Tk (r := bb true) rfl rfl rfl trivial rfl rfl ?_
    rfl
   ·have c31 := (hfr hz).2
    have hfrk := (hfr hz).1
    have hst := hstep _ hfrk
    obtain ⟨al, st, mk, es⟩ := A2
    simp only at hz
    refine zaj Tk Tryz.func7 (c31 _) rfl rfl rfl rfl rfl ?_
    refine zae Tk Tryz.func7 rfl (fun h => absurd h (by simpa using hz)) (fun _ => ?_)
    refine gcF Tk Tryz.func7 rfl ?_
    refine zaq Tk Tryz.func7 zay rfl ?_
    refine zqo Tk ?_
    refine zhb Tk (by exact ⟨by show (L.length + 1) * 80 ≤ 140737488355328; omega, by show L.length + 1 ≤ 9223372036854775807; omega⟩) ?_
    refine zj3 Tk (p := ⟨[(53, .osl 0 53), (50, .dead), (7, .dead)], [(53, .arr 39 4 (L.length + 1) (L.map autM ++ [autM ⟨al, st, mk, es⟩]) true)], some 53⟩) rfl rfl rfl ?_
    refine zhb Tk (by exact ⟨by show ((L.map za0).length + 1) * 112 ≤ 140737488355328; omega, by show (L.map za0).length + 1 ≤ 9223372036854775807; omega⟩) ?_
    refine zj3 Tk (p := ⟨[(57, .osl 0 57), (54, .dead), (8, .dead)], [(57, .arr 77 6 ((L.map za0).length + 1) ((L.map za0).map extI ++ [extI (za0 ⟨al, st, mk, es⟩)]) true)], some 57⟩) rfl rfl rfl ?_
    refine zlB Tk Tryz.func7 (by kernel_rfl) (GM.h ?_)
    refine zad ?_
    refine ih (2 + 1) _ _ ⟨by omega, by rw [htk]; exact hst⟩ (by omega) ⟨rfl, rfl, rfl, rfl, rfl, hk1, trivial⟩ rfl ⟨rfl, rfl, ?_, ?_, trivial⟩ rfl rfl
    ·rw [htk]
     exact congrArg some (zfR _ _)
    ·rw [htk, List.map_append]
     exact congrArg some (zfP _ _)
 ·have g1 : ¬ (i : Int) < IntKind.i64.wrap (1 + IntKind.i64.wrap (n.tmod 3)) := of_decide_eq_false g1
  rw [hkk] at g1
  obtain rfl : i = kk := by omega
  obtain ⟨V, hj, v1, v2, v3, v4, v5, h32, h33⟩ := hend ([A0, A1, A2].take i) (fun e => by
   have := congrArg List.length e
   rw [List.length_take] at this
   simp at this
   omega) hall (fun a ha => List.mem_of_mem_take ha) (by rw [List.length_take]; simp; omega)
  clear hend ih g1 hj hall
  generalize [A0, A1, A2].take i = L at *
  generalize evL L = ev at *
  have h34 := fun O => zsX O (unfA ev V) v4 v2 v3
  have h35 := fun O (t : List Int) (ht : t.length ≤ zam) => zcE O t ht
  obtain ⟨vs, vm, ve⟩ := V
  simp only at v1 v2 v3 v5 h32 h33 h34
  refine zax ?_
  refine zaw (zap 53 rfl rfl) ?_
  refine zaw (zap 57 rfl rfl) ?_
  refine zaw (zcs rfl) ?_
  refine zaf Tk Tryz.func7 ?_
  refine g_go Tk Tryz.func7 ?_
  refine zbe Tk Tryz.func7 hE (h32 _) rfl rfl rfl rfl rfl rfl ?_
  refine zax ?_
  refine zaf Tk Tryz.func7 ?_
  refine g_go Tk Tryz.func7 ?_
  refine zbe Tk Tryz.func7 hE (h33 _) rfl rfl rfl rfl rfl rfl ?_
  refine zax ?_
  refine zaf Tk Tryz.func7 ?_
  refine g_go Tk Tryz.func7 ?_
  refine gkF Tk Tryz.func7 rfl ?_
  refine gkF Tk Tryz.func7 rfl ?_
  refine zaj Tk Tryz.func7 (h34 _) rfl rfl rfl rfl rfl ?_
  refine gkF Tk Tryz.func7 rfl ?_
  refine zae Tk Tryz.func7 rfl (fun h => absurd h (by simp)) (fun _ => ?_)
  refine zad ?_
  refine zag (fun j : Nat => [(14, .i (zqp vs)), (17, zmN (vs.map tO)), (19, ii j)]) (fun _ => []) (fun _ => O) 115
   (fun j => j ≤ vs.length) (fun j => vs.length - j) 0 (Nat.zero_le _) ⟨rfl, rfl, rfl, trivial⟩ rfl trivial rfl rfl ?_
  rintro j hj ih
  refine zaf Tk Tryz.func7 ?_
  refine zae Tk Tryz.func7 rfl (fun g2 => ?_) (fun g2 => ?_)
  ·have h4 : j < vs.length := by simpa using g2
   clear g2
   have hj1 : ii (IntKind.i64.wrap ((j : Int) + 1)) = ii ((j + 1 : Nat) : Int) := congrArg ii (zaB (n := 4096) (by omega) (by decide))
   have gr : (vs.map fun r => [zb2 r])[(j : Int).toNat]? = some [zb2 vs[j]] := zah (f := fun r => [zb2 r]) h4
   have gq : ((vs.map tO).map orgI)[(j : Int).toNat]? = some (orgI (tO vs[j])) := by
    rw [List.map_map]
    exact zah (f := orgI ∘ tO) h4
   have h35' := fun O => h35 O vs[j] (v5 _ (List.getElem_mem h4))
   generalize vs[j] = t at *
   refine zaq Tk Tryz.func7 zay rfl ?_
   refine zat Tk (by exact ⟨by omega, by rw [List.length_map]; show (j : Int) < (vs.length : Int); omega⟩) ?_
   refine zaA Tk (gq) ?_
   refine zat Tk (by exact ⟨by omega, by show (j : Int) < (vs.length : Int); omega⟩) ?_
   refine zaA Tk (gr) ?_
   refine zaN Tk (fun _ => h35' _) rfl rfl rfl ?_
   refine skF Tk ?_
   refine zat Tk (by exact ⟨by omega, by rw [List.length_map]; show (j : Int) < (vs.length : Int); omega⟩) ?_
   refine zaA Tk (gq) ?_
   refine zav Tk Tryz.func7 (by kernel_rfl) ?_
   refine gcF Tk Tryz.func7 rfl ?_
   refine zad ?_
   refine ih (j + 1) _ _ h4 (by omega) ⟨rfl, rfl, hj1, trivial⟩ rfl trivial rfl rfl
  ·refine zai Tk (r := bb true) rfl rfl rfl trivial rfl rfl ?_
   rfl
end Go.AI


namespace Go.Proofs.YtlcekmemdnjjbaaGreatDoor
open Go.ChangeShapes Go.WideShapes Go.ChangeAt Go.RowKit Go.Deep Go.WideElems
set_option maxRecDepth 100000
section
variable {H : Type} {enc : TypeId × Value → H} {W : World}
theorem zoy {r : Reach} {b0 : Nat} {v : Value} {d : DataW H} {p : List MemPlace} (hv : Value.okWide Tryz.prog W r b0 68 v) (h : DataW.Trod enc Tryz.prog W 0 (fun _ => true) true 68 v d p) :
  ∃ b : Int × Int × Int, True ∧ ∀ ρ sh, AI.RepD (KW W) ρ sh v (.agg [AI.u8D b.1, AI.u8D b.2.1, AI.u8D b.2.2]) := by
 obtain ⟨cs, rfl⟩ := zeT Tryz.underlying68 hv
 obtain ⟨n, hn⟩ := h
 obtain ⟨is, hr, zs, hz, rfl, _⟩ := ziy Tryz.underlying68 Tryz.underlying22 (by kernel_rfl) (by kernel_rfl) n _ _ hn
 match zs, hz with
 | [x, y, z], _ =>
  refine ⟨(x, y, z), trivial, fun ρ sh => ?_⟩
  have := AI.RepD.agg (AI.RepDL.ofL (ρ := ρ) (sh := sh) hr)
  simpa [Value.cells] using this
abbrev gr3 (x : Nat → Int × Int × (Nat → Int)) : List AI.D := AI.grC (x 0).1 (x 0).2.1 (x 0).2.2 ++ (AI.grC (x 1).1 (x 1).2.1 (x 1).2.2 ++ AI.grC (x 2).1 (x 2).2.1 (x 2).2.2)
theorem zjx {r : Reach} {b0 : Nat} {v : Value} {d : DataW H} {p : List MemPlace} (hv : Value.okWide Tryz.prog W r b0 69 v) (h : DataW.Trod enc Tryz.prog W 0 (fun _ => true) true 69 v d p) :
  ∃ x : Nat → Int × Int × (Nat → Int), (∀ i, AI.zjL (x i).1 (x i).2.2) ∧ ∀ ρ sh, AI.RepD (KW W) ρ sh v (.agg (gr3 x)) := by
 obtain ⟨cs, rfl⟩ := zeT Tryz.underlying69 hv
 obtain ⟨n, hn⟩ := h
 obtain ⟨is, hr, xs, hl, rfl, hx⟩ := zgQ Tryz.underlying69 (z := 27) (by kernel_rfl) (by kernel_rfl) zox n _ _ hn
 match xs, hl with
 | [u, v, w], _ =>
  obtain ⟨x0, y0, L, e0, h0, hL, hLb⟩ := hx u (by simp)
  obtain ⟨x1, y1, M, e1, h1, hM, hMb⟩ := hx v (by simp)
  obtain ⟨x2, y2, N, e2, h2, hN, hNb⟩ := hx w (by simp)
  subst e0 e1 e2
  refine ⟨fun i => if i = 0 then (x0, y0, fun j => L.getD j 0) else if i = 1 then (x1, y1, fun j => M.getD j 0) else (x2, y2, fun j => N.getD j 0), fun i => ?_, fun ρ sh => ?_⟩
  ·simp only
   split
   ·exact ⟨h0, zjM hLb⟩
   ·split
    ·exact ⟨h1, zjM hMb⟩
    ·exact ⟨h2, zjM hNb⟩
  ·have := AI.RepD.agg (AI.RepDL.ofL (ρ := ρ) (sh := sh) hr)
   match L, hL, M, hM, N, hN with
   | [a0, a1, a2, a3, a4, a5, a6, a7, a8, a9, a10, a11, a12, a13, a14, a15, a16, a17, a18, a19, a20, a21, a22, a23, a24], _, [b0, b1, b2, b3, b4, b5, b6, b7, b8, b9, b10, b11, b12, b13, b14, b15, b16, b17, b18, b19, b20, b21, b22, b23, b24], _, [c0, c1, c2, c3, c4, c5, c6, c7, c8, c9, c10, c11, c12, c13, c14, c15, c16, c17, c18, c19, c20, c21, c22, c23, c24], _ => exact this
theorem zqE {r : Reach} {b0 : Nat} {v : Value} {d : DataW H} {p : List MemPlace} (hv : Value.okWide Tryz.prog W r b0 5 v) (h : DataW.Trod enc Tryz.prog W 0 (fun _ => true) true 5 v d p) :
  ∃ n : Int, (0 ≤ n ∧ n ≤ 255) ∧ ∀ ρ sh, AI.RepD (KW W) ρ sh v (AI.u8D n) := by
 obtain ⟨x, rfl, h1, _, _⟩ := open_int Tryz.underlying5 hv h
 exact ⟨x, by exact wf_u8 (by first | exact h1 | assumption), fun ρ sh => .i (.v rfl)⟩
end
end Go.Proofs.YtlcekmemdnjjbaaGreatDoor


namespace Go.Proofs.YtlcekmemdnjjbaaGreatDoor
set_option maxRecDepth 100000
theorem zbn : laidOutB Tryz.prog = true := by kernel_rfl
theorem zeG : mapsRowed Tryz.prog = true := by kernel_rfl
theorem zei : (Rows.flattenProductRow.inPlace == Tryz.prog.inPlace 7) = true := by kernel_rfl
theorem zeh : (Rows.flattenProductRow.unfollowed == Tryz.prog.unfollowed 7) = true := by kernel_rfl
theorem zeg : (Rows.flattenProductRow.recurses == Tryz.prog.recurses 7) = true := by kernel_rfl
theorem zef : (Rows.flattenProductRow.named == Tryz.prog.varsNamed 7) = true := by kernel_rfl
theorem zdb : joinedFacts Tryz.prog 7 Tryz.f7 Rows.flattenProductSpec Rows.flattenProductRow = true := by
 simp only [joinedFacts, Bool.and_eq_true]
 repeat' refine And.intro ?_ ?_
 ·kernel_rfl
 ·exact zbn
 ·exact zeG
 ·kernel_rfl
 ·kernel_rfl
 ·kernel_rfl
 ·kernel_rfl
 ·kernel_rfl
 ·kernel_rfl
 ·exact zei
 ·exact zeh
 ·exact zeg
 ·exact zef
 ·kernel_rfl
 ·kernel_rfl
 ·kernel_rfl
 ·kernel_rfl
 ·kernel_rfl
 ·kernel_rfl
 ·kernel_rfl
 ·kernel_rfl
 ·kernel_rfl
 ·kernel_rfl
 ·kernel_rfl
 ·kernel_rfl
 ·kernel_rfl
 ·kernel_rfl
 ·kernel_rfl
 ·kernel_rfl
 ·kernel_rfl
 ·kernel_rfl
 ·kernel_rfl
theorem zdU : Tryz.prog.mainIs = some (true, "5041c38c3c15c3199033450f7632fe41f4871cb850793ec5542bbc9f8af1fc7c".toList) := by kernel_rfl
theorem zdA : false = Tryz.prog.looks [] := by kernel_rfl
theorem zdV : false = Rows.flattenProductRow.goesBy Tryz.prog := by kernel_rfl
end Go.Proofs.YtlcekmemdnjjbaaGreatDoor
