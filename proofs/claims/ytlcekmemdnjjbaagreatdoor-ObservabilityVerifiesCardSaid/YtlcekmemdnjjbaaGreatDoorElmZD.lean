/- The layer of abstract runs, part 30. -/
import Derived.Test.YtlcekmemdnjjbaaGreatDoorElmZC
import Derived.Test.YtlcekmemdnjjbaaGreatDoorRows
import Derived.KernelRfl
import Derived.JoinedOf
import Derived.SevenTiedAt
set_option linter.unusedSimpArgs false
set_option linter.unusedVariables false
set_option linter.all false

namespace Go.AI
open Go.Proofs
set_option maxRecDepth 20000
def zmD (x : Sys) (a : Aut) (ps : List (Int × Int)) (w : Wit) : Bool :=
 (decide (a.states ≠ 0) && decide (w.2.2 ∈ x.ct)) && (decide (0 ≤ runI a.edges 0 w.1) && (decide (0 ≤ runI a.edges 0 w.2.1) && (decide (obsF x.ob w.1 = obsF x.ob w.2.1) && (decide (0 ≤ stp3 a.edges (runI a.edges 0 w.1) w.2.2) && (decide (stp3 a.edges (runI a.edges 0 w.2.1) w.2.2 < 0) && decide (0 ≤ stp3 x.p.edges (ps.getD (runI a.edges 0 w.2.1).toNat (0, 0)).1 w.2.2))))))
theorem zlk (on : List Int) : obsF on [] = [] := rfl
theorem ziA (on : List Int) (e : Int) (r : List Int) : obsF on (e :: r) = if decide (e ∈ on) = true then e :: obsF on r else obsF on r := List.filter_cons
set_option maxHeartbeats 8000000 in
theorem zqz (O : List Heap) (x : Sys) (w : Wit) (h : smallS x) (hx : gSys x) (hV : (lpV x).length ≤ 4095) (hw1 : w.1.length ≤ 1000000) (hw2 : w.2.1.length ≤ 1000000) :
  zap Tryz.prog 22 [sysD x, .agg (witC w)] O (bb (zmD x (lpR x).1 (lpR x).2 w)) [] O := by
 have h1 := fun O => zrB O x h hx hV
 have hga := (lp_g hx hV).1
 have hct := fun O => zaX O x.ct w.2.2 (by have := h.ct; simp only [zan]; omega)
 have hcb := fun O e => zaX O x.ob e (by have := h.ob; simp only [zan]; omega)
 have hst := fun O s e => zk2 O (lpR x).1 s e hga.sm.ed
 have hsp := fun O s e => zk2 O x.p s e h.p.ed
 have hto : ∀ e ∈ (lpR x).1.edges, 0 ≤ e.2.2 ∧ e.2.2 < ((lpR x).2.length : Int) := by rw [← hga.st]; exact (zb0 hga.c).2.1
 have hlst := hga.st
 obtain ⟨R, hR⟩ : ∃ R, R = zmD x (lpR x).1 (lpR x).2 w := ⟨_, rfl⟩
 rw [← hR]
 unfold zmD at hR
 clear hga hV hx h
 generalize (lpR x).1 = a at *
 generalize (lpR x).2 = ps at *
 obtain ⟨w1, w2, ev⟩ := w
 obtain ⟨⟨al, st, mk, eds⟩, ⟨al', st', mk', eds'⟩, ob, ct⟩ := x
 obtain ⟨lal, lst, lmk, leds⟩ := a
 simp only at hR hct hcb hst hsp hto hlst hw1 hw2
 generalize decide (ev ∈ ct) = b4 at *
 refine zat [] Tk Tryz.func22 rfl Tryz.call22 Tryz.ntmps22 (Nat.le_of_ble_eq_true rfl) fun E => ?_
 refine zae Tk Tryz.func22 ?_
 refine zaf Tk Tryz.func22 (h1 _) rfl rfl rfl rfl rfl ?_
 refine zaW Tk Tryz.func22 rfl (fun c0 => ?_) (fun c0 => ?_)
 ·have c0 : lst = 0 := beqT c0
  rw [decide_eq_false (fun h => h c0), Bool.false_and, Bool.false_and] at hR
  subst hR
  refine gcT Tk Tryz.func22 rfl ?_
  refine zal Tk (r := bb false) rfl rfl rfl trivial rfl rfl ?_
  rfl
 have c0 : lst ≠ 0 := beqF c0
 rw [decide_eq_true c0, Bool.true_and] at hR
 refine zaf Tk Tryz.func22 (hct _) rfl rfl rfl rfl rfl ?_
 refine zai Tk Tryz.func22 rfl (fun c4 => ?_) (fun c4 => ?_)
 ·have c4 : b4 = false := notT c4
  rw [c4, Bool.false_and] at hR
  subst hR
  refine zal Tk (r := bb false) rfl rfl rfl trivial rfl rfl ?_
  rfl
 have c4 : b4 = true := notF c4
 rw [c4, Bool.true_and] at hR
 refine zac ?_
 refine zae Tk Tryz.func22 ?_
 refine gcT Tk Tryz.func22 rfl ?_
 refine zag Tk Tryz.func22 (by exact ⟨by decide, by decide⟩) ?_
 refine zar Tk Tryz.func22 (rfl) ?_
 refine zac ?_
 refine zas (zaN 8 68 3 1 (pre := []) (post := [.i (.v (.slice none 0 0))]) rfl rfl rfl) ?_
 refine zah (fun y : Nat × Int × List Int => [(2, .own 0 2 0 0), (3, .own 0 3 0 0), (5, .own 0 5 0 0), (6, .i (prsI ps)), (7, .own 0 7 0 0), (8, .own 0 8 0 0), (33, .i (.sl 1 2 [[zbi w1], [zbi w2]])), (34, ii 2), (35, ii 0), (9, ii 0), (40, ints w1), (41, ii w1.length), (42, ii y.1)])
  (fun y => [(2, .box (sysC ⟨⟨al, st, mk, eds⟩, ⟨al', st', mk', eds'⟩, ob, ct⟩)), (3, .box [ints w1, ints w2, ii ev]), (5, .box [ints lal, ii lst, ints lmk, edgs leds]), (7, .box [ii y.2.1, ii 0]), (8, .box [.osl 0 68, .i (.v (.slice none 0 0))]), (68, zaq y.2.2)]) (fun _ => O) 109
  (fun y => y.1 ≤ w1.length ∧ 0 ≤ y.2.1 ∧ y.2.2.length ≤ y.1 ∧ runI leds 0 w1 = runI leds y.2.1 (w1.drop y.1) ∧ obsF ob w1 = y.2.2 ++ obsF ob (w1.drop y.1)) (fun y => w1.length - y.1) (0, 0, [])
  ⟨Nat.zero_le _, Int.le_refl _, Nat.le_refl _, rfl, rfl⟩ ⟨rfl, rfl, rfl, rfl, rfl, rfl, rfl, rfl, rfl, rfl, rfl, rfl, rfl, trivial⟩ rfl ⟨rfl, rfl, rfl, rfl, rfl, rfl, trivial⟩ rfl rfl ?_
 rintro ⟨j, s, sn⟩ ⟨hj, hs0, hsn, hrun, hob⟩ ih
 simp only at hj hs0 hsn hrun hob
 have hj1 : ii (IntKind.i64.wrap ((j : Int) + 1)) = ii ((j + 1 : Nat) : Int) := congrArg ii (zaC (n := 1000001) (by omega) (by decide))
 refine zae Tk Tryz.func22 ?_
 refine zai Tk Tryz.func22 rfl (fun g1 => ?_) (fun g1 => ?_)
 ·have h3 : j < w1.length := by simpa using g1
  clear g1
  have ga : (w1.map fun x => [vi x])[(j : Int).toNat]? = some [vi w1[j]] := zak (f := fun x => [vi x]) h3
  have da : w1.drop j = w1[j] :: w1.drop (j + 1) := List.drop_eq_getElem_cons h3
  rw [da] at hrun hob
  simp only [runI] at hrun
  rw [ziA] at hob
  clear da
  generalize w1[j] = e at *
  have d1 := fun O => hst O s e
  have d2 := fun O => hcb O e
  generalize stp3 leds s e = t at *
  refine zag Tk Tryz.func22 (by exact ⟨by omega, by show (j : Int) < (w1.length : Int); omega⟩) ?_
  refine zar Tk Tryz.func22 (ga) ?_
  refine zaz Tk Tryz.func22 zaJ rfl ?_
  refine zav Tk (by exact ⟨by decide, by decide⟩) ?_
  refine zaQ Tk (fun _ => d1 _) rfl rfl rfl ?_
  refine zav Tk (by exact ⟨by decide, by decide⟩) ?_
  refine zjn Tk rfl rfl rfl ?_
  refine zaG Tk Tryz.func22 (by kernel_rfl) ?_
  refine zag Tk Tryz.func22 (by exact ⟨by decide, by decide⟩) ?_
  refine zai Tk Tryz.func22 rfl (fun c1 => ?_) (fun c1 => ?_)
  ·have c1 : t < 0 := of_decide_eq_true c1
   rw [if_pos c1] at hrun
   rw [hrun, decide_eq_false (show ¬ (0 : Int) ≤ -1 by decide), Bool.false_and] at hR
   subst hR
   refine zal Tk (r := bb false) rfl rfl rfl trivial rfl rfl ?_
   rfl
  have c1 : ¬ t < 0 := of_decide_eq_false c1
  rw [if_neg c1] at hrun
  refine zaf Tk Tryz.func22 (d2 _) rfl rfl rfl rfl rfl ?_
  refine zai Tk Tryz.func22 rfl (fun c2 => ?_) (fun c2 => ?_)
  ·have c2 : decide (e ∈ ob) = true := c2
   rw [if_pos c2] at hob
   refine zag Tk Tryz.func22 (by exact ⟨by decide, by decide⟩) ?_
   refine zag Tk Tryz.func22 (by exact ⟨by show (sn.length + 1) * 8 ≤ 140737488355328; omega, by show sn.length + 1 ≤ 9223372036854775807; omega⟩) ?_
   refine zag Tk Tryz.func22 (by exact ⟨by decide, by decide⟩) ?_
   refine zac ?_
   refine ih (j + 1, t, sn ++ [e]) _ _ ⟨h3, by simp only; omega, by simp only [List.length_append, List.length_singleton]; omega, hrun, by rw [hob]; simp⟩ (by simp only; omega) ⟨rfl, rfl, rfl, rfl, rfl, rfl, rfl, rfl, rfl, rfl, rfl, rfl, hj1, trivial⟩ rfl ⟨rfl, rfl, rfl, rfl, rfl, congrArg some (zaI sn e), trivial⟩ rfl rfl
  ·have c2 : ¬ decide (e ∈ ob) = true := by rw [show decide (e ∈ ob) = false from c2]; decide
   rw [if_neg c2] at hob
   refine zac ?_
   refine ih (j + 1, t, sn) _ _ ⟨h3, by simp only; omega, by simp only; omega, hrun, hob⟩ (by simp only; omega) ⟨rfl, rfl, rfl, rfl, rfl, rfl, rfl, rfl, rfl, rfl, rfl, rfl, hj1, trivial⟩ rfl ⟨rfl, rfl, rfl, rfl, rfl, rfl, trivial⟩ rfl rfl
 have h3 : w1.length ≤ j := by simpa using g1
 rw [List.drop_eq_nil_of_le h3] at hrun hob
 simp only [runI, zlk, List.append_nil] at hrun hob
 refine zac ?_
 refine zas (zr2 68 120 rfl rfl) ?_
 refine zbP (l := [(2, .own 0 2 0 0), (3, .own 0 3 0 0), (5, .own 0 5 0 0), (6, .i (prsI ps)), (7, .own 0 7 0 0), (8, .own 0 8 0 0), (33, .i (.sl 1 2 [[zbi w1], [zbi w2]])), (34, ii 2), (35, ii 1)]) (Hv := [(2, .box (sysC ⟨⟨al, st, mk, eds⟩, ⟨al', st', mk', eds'⟩, ob, ct⟩)), (3, .box [ints w1, ints w2, ii ev]), (5, .box [ints lal, ii lst, ints lmk, edgs leds]), (7, .box [ii s, ii 0]), (8, .box [.osl 0 120, .i (.v (.slice none 0 0))]), (120, zaq sn)]) (O := O) (n := 109) ⟨rfl, rfl, rfl, rfl, rfl, rfl, rfl, rfl, rfl, trivial⟩ rfl ⟨rfl, rfl, rfl, rfl, rfl, rfl, trivial⟩ rfl rfl ?_
 have hlt1 : s < (ps.length : Int) := by rw [← hrun]; exact zhp (Int.natCast_nonneg _) hto w1 0 (by omega)
 rw [hrun, decide_eq_true hs0, Bool.true_and, hob] at hR
 have hl1 : sn.length ≤ 1000000 := by omega
 clear ih hrun hob h3 hj1 hj hsn g1
 obtain ⟨s1, es1⟩ : ∃ s1, s1 = s := ⟨_, rfl⟩
 obtain ⟨sn1, esn1⟩ : ∃ sn1, sn1 = sn := ⟨_, rfl⟩
 rw [← es1] at hR hs0 hlt1 ⊢
 rw [← esn1] at hR hl1 ⊢
 clear es1 esn1 s sn j
 have hs1 := hs0
 clear hs0
 refine zae Tk Tryz.func22 ?_
 refine gcT Tk Tryz.func22 rfl ?_
 refine zag Tk Tryz.func22 (by exact ⟨by decide, by decide⟩) ?_
 refine zar Tk Tryz.func22 (rfl) ?_
 refine zac ?_
 refine zas (zaN 8 68 3 1 (pre := [.osl 0 120]) (post := []) rfl rfl rfl) ?_
 refine zah (fun y : Nat × Int × List Int => [(2, .own 0 2 0 0), (3, .own 0 3 0 0), (5, .own 0 5 0 0), (6, .i (prsI ps)), (7, .own 0 7 0 0), (8, .own 0 8 0 0), (33, .i (.sl 1 2 [[zbi w1], [zbi w2]])), (34, ii 2), (35, ii 1), (9, ii 1), (40, ints w2), (41, ii w2.length), (42, ii y.1)])
  (fun y => [(2, .box (sysC ⟨⟨al, st, mk, eds⟩, ⟨al', st', mk', eds'⟩, ob, ct⟩)), (3, .box [ints w1, ints w2, ii ev]), (5, .box [ints lal, ii lst, ints lmk, edgs leds]), (7, .box [ii s1, ii y.2.1]), (8, .box [.osl 0 120, .osl 0 68]), (68, zaq y.2.2), (120, zaq sn1)]) (fun _ => O) 109
  (fun y => y.1 ≤ w2.length ∧ 0 ≤ y.2.1 ∧ y.2.2.length ≤ y.1 ∧ runI leds 0 w2 = runI leds y.2.1 (w2.drop y.1) ∧ obsF ob w2 = y.2.2 ++ obsF ob (w2.drop y.1)) (fun y => w2.length - y.1) (0, 0, [])
  ⟨Nat.zero_le _, Int.le_refl _, Nat.le_refl _, rfl, rfl⟩ ⟨rfl, rfl, rfl, rfl, rfl, rfl, rfl, rfl, rfl, rfl, rfl, rfl, rfl, trivial⟩ rfl ⟨rfl, rfl, rfl, rfl, rfl, rfl, rfl, trivial⟩ rfl rfl ?_
 rintro ⟨j, s, sn⟩ ⟨hj, hs0, hsn, hrun, hob⟩ ih
 simp only at hj hs0 hsn hrun hob
 have hj1 : ii (IntKind.i64.wrap ((j : Int) + 1)) = ii ((j + 1 : Nat) : Int) := congrArg ii (zaC (n := 1000001) (by omega) (by decide))
 refine zae Tk Tryz.func22 ?_
 refine zai Tk Tryz.func22 rfl (fun g1 => ?_) (fun g1 => ?_)
 ·have h3 : j < w2.length := by simpa using g1
  clear g1
  have ga : (w2.map fun x => [vi x])[(j : Int).toNat]? = some [vi w2[j]] := zak (f := fun x => [vi x]) h3
  have da : w2.drop j = w2[j] :: w2.drop (j + 1) := List.drop_eq_getElem_cons h3
  rw [da] at hrun hob
  simp only [runI] at hrun
  rw [ziA] at hob
  clear da
  generalize w2[j] = e at *
  have d1 := fun O => hst O s e
  have d2 := fun O => hcb O e
  generalize stp3 leds s e = t at *
  refine zag Tk Tryz.func22 (by exact ⟨by omega, by show (j : Int) < (w2.length : Int); omega⟩) ?_
  refine zar Tk Tryz.func22 (ga) ?_
  refine zaz Tk Tryz.func22 zaJ rfl ?_
  refine zav Tk (by exact ⟨by decide, by decide⟩) ?_
  refine zaQ Tk (fun _ => d1 _) rfl rfl rfl ?_
  refine zav Tk (by exact ⟨by decide, by decide⟩) ?_
  refine zjn Tk rfl rfl rfl ?_
  refine zaG Tk Tryz.func22 (by kernel_rfl) ?_
  refine zag Tk Tryz.func22 (by exact ⟨by decide, by decide⟩) ?_
  refine zai Tk Tryz.func22 rfl (fun c1 => ?_) (fun c1 => ?_)
  ·have c1 : t < 0 := of_decide_eq_true c1
   rw [if_pos c1] at hrun
   rw [hrun, decide_eq_false (show ¬ (0 : Int) ≤ -1 by decide), Bool.false_and] at hR
   subst hR
   refine zal Tk (r := bb false) rfl rfl rfl trivial rfl rfl ?_
   rfl
  have c1 : ¬ t < 0 := of_decide_eq_false c1
  rw [if_neg c1] at hrun
  refine zaf Tk Tryz.func22 (d2 _) rfl rfl rfl rfl rfl ?_
  refine zai Tk Tryz.func22 rfl (fun c2 => ?_) (fun c2 => ?_)
  ·have c2 : decide (e ∈ ob) = true := c2
   rw [if_pos c2] at hob
   refine zag Tk Tryz.func22 (by exact ⟨by decide, by decide⟩) ?_
   refine zag Tk Tryz.func22 (by exact ⟨by show (sn.length + 1) * 8 ≤ 140737488355328; omega, by show sn.length + 1 ≤ 9223372036854775807; omega⟩) ?_
   refine zag Tk Tryz.func22 (by exact ⟨by decide, by decide⟩) ?_
   refine zac ?_
   refine ih (j + 1, t, sn ++ [e]) _ _ ⟨h3, by simp only; omega, by simp only [List.length_append, List.length_singleton]; omega, hrun, by rw [hob]; simp⟩ (by simp only; omega) ⟨rfl, rfl, rfl, rfl, rfl, rfl, rfl, rfl, rfl, rfl, rfl, rfl, hj1, trivial⟩ rfl ⟨rfl, rfl, rfl, rfl, rfl, congrArg some (zaI sn e), rfl, trivial⟩ rfl rfl
  ·have c2 : ¬ decide (e ∈ ob) = true := by rw [show decide (e ∈ ob) = false from c2]; decide
   rw [if_neg c2] at hob
   refine zac ?_
   refine ih (j + 1, t, sn) _ _ ⟨h3, by simp only; omega, by simp only; omega, hrun, hob⟩ (by simp only; omega) ⟨rfl, rfl, rfl, rfl, rfl, rfl, rfl, rfl, rfl, rfl, rfl, rfl, hj1, trivial⟩ rfl ⟨rfl, rfl, rfl, rfl, rfl, rfl, rfl, trivial⟩ rfl rfl
 have h3 : w2.length ≤ j := by simpa using g1
 rw [List.drop_eq_nil_of_le h3] at hrun hob
 simp only [runI, zlk, List.append_nil] at hrun hob
 refine zac ?_
 refine zas ((zao 68 rfl rfl).trans (zao 120 rfl rfl)) ?_
 refine zbP (l := [(2, .own 0 2 0 0), (3, .own 0 3 0 0), (5, .own 0 5 0 0), (6, .i (prsI ps)), (7, .own 0 7 0 0), (8, .own 0 8 0 0), (33, .i (.sl 1 2 [[zbi w1], [zbi w2]])), (34, ii 2), (35, ii 2)]) (Hv := [(2, .box (sysC ⟨⟨al, st, mk, eds⟩, ⟨al', st', mk', eds'⟩, ob, ct⟩)), (3, .box [ints w1, ints w2, ii ev]), (5, .box [ints lal, ii lst, ints lmk, edgs leds]), (7, .box [ii s1, ii s]), (8, .box [.osl 0 120, .osl 0 68]), (68, .arr 3 1 sn.length (sn.map fun x => [vi x]) false), (120, .arr 3 1 sn1.length (sn1.map fun x => [vi x]) false)]) (O := O) (n := 109) ⟨rfl, rfl, rfl, rfl, rfl, rfl, rfl, rfl, rfl, trivial⟩ rfl ⟨rfl, rfl, rfl, rfl, rfl, rfl, rfl, trivial⟩ rfl rfl ?_
 have hlt2 : s < (ps.length : Int) := by rw [← hrun]; exact zhp (Int.natCast_nonneg _) hto w2 0 (by omega)
 rw [hrun, decide_eq_true hs0, Bool.true_and, hob] at hR
 clear ih hrun hob h3 hj1 hj g1
 have heq := fun O => zeS O sn1 sn (by simp only [zan]; omega)
 have d1 := fun O => hst O s1 ev
 have d2 := fun O => hst O s ev
 obtain ⟨k, rfl⟩ : ∃ k : Nat, s = k := ⟨s.toNat, by omega⟩
 have hk : k < ps.length := by omega
 have hg : ps.getD (k : Int).toNat (0, 0) = ps[k] := by rw [Int.toNat_natCast, List.getD_eq_getElem?_getD, List.getElem?_eq_getElem hk]; rfl
 have gp : (ps.map prI)[(k : Int).toNat]? = some (prI ps[k]) := zak hk
 rw [hg] at hR
 generalize ps[k] = z at *
 obtain ⟨z1, z2⟩ := z
 have d3 := fun O => hsp O z1 ev
 simp only at hR
 generalize stp3 leds s1 ev = v1 at *
 generalize stp3 leds k ev = v2 at *
 generalize stp3 eds z1 ev = v3 at *
 generalize decide (sn1 = sn) = b3 at *
 clear hst hsp hcb hct hto
 refine zae Tk Tryz.func22 ?_
 refine gcF Tk Tryz.func22 rfl ?_
 refine zaz Tk Tryz.func22 zaJ rfl ?_
 refine zav Tk (by exact ⟨by decide, by decide⟩) ?_
 refine zav Tk (by exact ⟨by decide, by decide⟩) ?_
 refine zk5 Tk (heq _) rfl rfl rfl ?_
 refine zb1 Tk (fun c3 => ?_) (fun c3 => ?_)
 ·have c3 : b3 = true := c3
  rw [c3, Bool.true_and] at hR
  refine zav Tk (by exact ⟨by decide, by decide⟩) ?_
  refine zaQ Tk (fun _ => d1 _) rfl rfl rfl ?_
  refine zb1 Tk (fun c5 => ?_) (fun c5 => ?_)
  ·have c5 : v1 ≥ 0 := of_decide_eq_true c5
   rw [decide_eq_true (show 0 ≤ v1 from c5), Bool.true_and] at hR
   refine zav Tk (by exact ⟨by decide, by decide⟩) ?_
   refine zaQ Tk (fun _ => d2 _) rfl rfl rfl ?_
   refine zb1 Tk (fun c6 => ?_) (fun c6 => ?_)
   ·have c6 : v2 < 0 := of_decide_eq_true c6
    rw [decide_eq_true c6, Bool.true_and] at hR
    refine zav Tk (by exact ⟨by decide, by decide⟩) ?_
    refine zav Tk (by exact ⟨by omega, by show (k : Int) < (ps.length : Int); omega⟩) ?_
    refine zav Tk (by exact ⟨by decide, by decide⟩) ?_
    refine zaH Tk (gp) ?_
    refine zaQ Tk (fun _ => d3 _) rfl rfl rfl ?_
    refine zaG Tk Tryz.func22 (by kernel_rfl) ?_
    subst hR
    refine zal Tk (r := bb (decide (v3 ≥ 0))) rfl rfl rfl trivial rfl rfl ?_
    rfl
   ·have c6 : ¬ v2 < 0 := of_decide_eq_false c6
    rw [decide_eq_false c6, Bool.false_and] at hR
    subst hR
    refine zaG Tk Tryz.func22 (by kernel_rfl) ?_
    refine zal Tk (r := bb false) rfl rfl rfl trivial rfl rfl ?_
    rfl
  ·have c5 : ¬ v1 ≥ 0 := of_decide_eq_false c5
   rw [decide_eq_false (show ¬ 0 ≤ v1 from c5), Bool.false_and] at hR
   subst hR
   refine skF Tk ?_
   refine zaG Tk Tryz.func22 (by kernel_rfl) ?_
   refine zal Tk (r := bb false) rfl rfl rfl trivial rfl rfl ?_
   rfl
 ·have c3 : b3 = false := c3
  rw [c3, Bool.false_and] at hR
  subst hR
  refine skF Tk ?_
  refine skF Tk ?_
  refine zaG Tk Tryz.func22 (by kernel_rfl) ?_
  refine zal Tk (r := bb false) rfl rfl rfl trivial rfl rfl ?_
  rfl
end Go.AI


namespace Go.AI
open Go.Proofs
set_option maxRecDepth 20000
theorem zpY (x : Sys) (a : Aut) (ps : List (Int × Int)) (w : Wit) : verR x a ps w = zmD x a ps w := by
 unfold verR zmD genR refF canF ze8
 have e : ∀ v : Int, (!decide (0 ≤ v)) = decide (v < 0) := fun v => by
  by_cases h : 0 ≤ v
  ·rw [decide_eq_true h, decide_eq_false (by omega)]; rfl
  ·rw [decide_eq_false h, decide_eq_true (by omega)]; rfl
 rw [e]
 generalize decide (a.states ≠ 0) = b1
 generalize decide (0 ≤ runI a.edges 0 w.1) = b2
 generalize decide (0 ≤ runI a.edges 0 w.2.1) = b3
 generalize decide (w.2.2 ∈ x.ct) = b4
 generalize decide (obsF x.ob w.1 = obsF x.ob w.2.1) = b5
 generalize decide (0 ≤ stp3 a.edges (runI a.edges 0 w.1) w.2.2) = b6
 generalize decide (stp3 a.edges (runI a.edges 0 w.2.1) w.2.2 < 0) = b7
 generalize decide (0 ≤ stp3 x.p.edges (ps.getD (runI a.edges 0 w.2.1).toNat (0, 0)).1 w.2.2) = b8
 revert b1 b2 b3 b4 b5 b6 b7 b8
 decide
theorem ztd {x : Sk} (h : skOkB x) (hf : (lpR (mkS x)).1.states ≤ 10) : (lpR (mkS x)).2.length ≤ 10 := by
 obtain ⟨m1, m2, _⟩ := zll h
 have := (lp_g m1 (by have := zsr h; omega)).1.st
 omega
set_option maxHeartbeats 4000000 in
theorem znz {g : Nat} (hg : ze9 g) {ty : TypeId} {fr : Nat × Nat} (O : List Heap) (x : Sk) (w : Wit) (h : skOkB x) (hl1 : w.1.length ≤ zan) (hl2 : w.2.1.length ≤ zan) : ASpecT g (ptab ty fr) Tryz.prog 5 [.agg (skC x), .agg (witC w)] O (bb true) [] O := by
 have hk := fun O => zsA hg (ty := ty) (fr := fr) O
 have h1 := fun O => ztH O x h
 have h2 := fun O => zrx O x h
 obtain ⟨m1, m2, m3⟩ := zll h
 by_cases hf : (lpR (mkS x)).1.states ≤ 10
 ·by_cases hw : w.1.length ≤ 8 ∧ w.2.1.length ≤ 8
  ·obtain ⟨hw1, hw2⟩ := hw
   have hV := zsr h
   have hn := ztd h hf
   rw [decide_eq_true hf] at h1
   have h3 := fun O => zqz O (mkS x) w m2 m1 (by omega) (by omega) (by omega)
   have h4 := fun O => zpX hg (ty := ty) (fr := fr) O (mkS x) w m2 m1 ⟨by omega, by omega⟩ (by omega) (by omega) (by omega) (by omega)
   rw [zpY] at h4
   clear hf hV hn m1 m2 m3 h
   generalize zmD (mkS x) (lpR (mkS x)).1 (lpR (mkS x)).2 w = b at *
   generalize mkS x = X at *
   obtain ⟨⟨al, st, mk, es⟩, ⟨al', st', mk', es'⟩, ob, ct⟩ := X
   obtain ⟨xst, xps, xpm, xpt, xss, xsm, xt2, xob, xct⟩ := x
   obtain ⟨w1, w2, w3⟩ := w
   simp only at h1 h2 h3 h4 hw1 hw2 ⊢
   refine zaS [7] Tk Tryz.func5 rfl Tryz.call5 Tryz.ntmps5 (Nat.le_of_ble_eq_true rfl) fun E hE => ?_
   refine zae Tk Tryz.func5 ?_
   refine za5 Tk Tryz.func5 hE (hk _) rfl rfl rfl rfl rfl rfl ?_
   refine gkF Tk Tryz.func5 rfl ?_
   refine zaf Tk Tryz.func5 (h1 _) rfl rfl rfl rfl rfl ?_
   refine gkF Tk Tryz.func5 rfl ?_
   refine zaW Tk Tryz.func5 rfl (fun h => absurd h (by simp; omega)) (fun _ => ?_)
   refine zai Tk Tryz.func5 rfl (fun h => absurd h (by simp; omega)) (fun _ => ?_)
   refine zaf Tk Tryz.func5 (h2 _) rfl rfl rfl rfl rfl ?_
   cases b with
   | true =>
    refine zaf Tk Tryz.func5 (h3 _) rfl rfl rfl rfl rfl ?_
    refine gcT Tk Tryz.func5 rfl ?_
    refine zay ?_
    refine zae Tk Tryz.func5 ?_
    refine g_go Tk Tryz.func5 ?_
    refine za5 Tk Tryz.func5 hE (h4 _) rfl rfl rfl rfl rfl rfl ?_
    refine zal Tk (r := bb true) rfl rfl rfl trivial rfl rfl ?_
    rfl
   | false =>
    refine zaf Tk Tryz.func5 (h3 _) rfl rfl rfl rfl rfl ?_
    refine gcF Tk Tryz.func5 rfl ?_
    refine zay ?_
    refine zae Tk Tryz.func5 ?_
    refine g_go Tk Tryz.func5 ?_
    refine za5 Tk Tryz.func5 hE (h4 _) rfl rfl rfl rfl rfl rfl ?_
    refine zal Tk (r := bb true) rfl rfl rfl trivial rfl rfl ?_
    rfl
  ·clear h2 m1 m2 m3 h hf
   generalize decide ((lpR (mkS x)).1.states ≤ 10) = b at *
   obtain ⟨xst, xps, xpm, xpt, xss, xsm, xt2, xob, xct⟩ := x
   obtain ⟨w1, w2, w3⟩ := w
   simp only at hw hl1 hl2
   refine zaS [] Tk Tryz.func5 rfl Tryz.call5 Tryz.ntmps5 (Nat.le_of_ble_eq_true rfl) fun E hE => ?_
   refine zae Tk Tryz.func5 ?_
   refine za5 Tk Tryz.func5 hE (hk _) rfl rfl rfl rfl rfl rfl ?_
   refine gkF Tk Tryz.func5 rfl ?_
   refine zaf Tk Tryz.func5 (h1 _) rfl rfl rfl rfl rfl ?_
   refine zaW Tk Tryz.func5 rfl (fun c1 => ?_) (fun c1 => ?_)
   ·repeat (first | refine gcT Tk Tryz.func5 rfl ?_ | refine gkT Tk Tryz.func5 rfl ?_ | refine skT Tk ?_ | refine gcF Tk Tryz.func5 rfl ?_ | refine gkF Tk Tryz.func5 rfl ?_ | refine skF Tk ?_)
    refine za5 Tk Tryz.func5 hE (hk _) rfl rfl rfl rfl rfl rfl ?_
    refine zal Tk (r := bb true) rfl rfl rfl trivial rfl rfl ?_
    rfl
   refine zaW Tk Tryz.func5 rfl (fun c2 => ?_) (fun c2 => ?_)
   ·refine gcT Tk Tryz.func5 rfl ?_
    refine za5 Tk Tryz.func5 hE (hk _) rfl rfl rfl rfl rfl rfl ?_
    refine zal Tk (r := bb true) rfl rfl rfl trivial rfl rfl ?_
    rfl
   have c2 : ¬ ((w1.length : Nat) : Int) > 8 := of_decide_eq_false c2
   refine zai Tk Tryz.func5 rfl (fun c3 => ?_) (fun c3 => ?_)
   ·refine za5 Tk Tryz.func5 hE (hk _) rfl rfl rfl rfl rfl rfl ?_
    refine zal Tk (r := bb true) rfl rfl rfl trivial rfl rfl ?_
    rfl
   have c3 : ¬ ((w2.length : Nat) : Int) > 8 := of_decide_eq_false c3
   exact absurd ⟨by omega, by omega⟩ hw
 ·rw [decide_eq_false hf] at h1
  clear h2 m1 m2 m3 h hf
  obtain ⟨xst, xps, xpm, xpt, xss, xsm, xt2, xob, xct⟩ := x
  obtain ⟨w1, w2, w3⟩ := w
  refine zaS [] Tk Tryz.func5 rfl Tryz.call5 Tryz.ntmps5 (Nat.le_of_ble_eq_true rfl) fun E hE => ?_
  refine zae Tk Tryz.func5 ?_
  refine za5 Tk Tryz.func5 hE (hk _) rfl rfl rfl rfl rfl rfl ?_
  refine gkF Tk Tryz.func5 rfl ?_
  refine zaf Tk Tryz.func5 (h1 _) rfl rfl rfl rfl rfl ?_
  repeat (first | refine gcT Tk Tryz.func5 rfl ?_ | refine gkT Tk Tryz.func5 rfl ?_ | refine skT Tk ?_ | refine gcF Tk Tryz.func5 rfl ?_ | refine gkF Tk Tryz.func5 rfl ?_ | refine skF Tk ?_)
  refine za5 Tk Tryz.func5 hE (hk _) rfl rfl rfl rfl rfl rfl ?_
  refine zal Tk (r := bb true) rfl rfl rfl trivial rfl rfl ?_
  rfl
end Go.AI


namespace Go.Proofs.YtlcekmemdnjjbaaGreatDoor
open Go.ChangeShapes Go.WideShapes Go.ChangeAt Go.RowKit Go.Deep Go.WideElems
set_option maxRecDepth 100000
section
variable {H : Type} {enc : TypeId × Value → H} {P : Program} {W : World}
theorem zmH {t e : TypeId} {m z : Nat} {R : List AI.I → Prop} (ht : P.underlying t = some (.array m e)) (hc : P.cellsOf e = z) (hct : P.cellsOf t = m * z) (he : Opn enc P W e R) :
  Opn enc P W t fun is => ∃ xs : List (List AI.I), xs.length = m ∧ is = xs.flatten ∧ ∀ x ∈ xs, R x := by
 intro n cs x h
 obtain ⟨xs, f, rfl, rfl, hl, hlen, hx⟩ := DataW.trod_array ht h
 rw [hct] at hl
 have build : ∀ k, k ≤ m → ∃ ys : List (List AI.I), ys.length = k ∧ AI.RepL (KW W) (cs.take (k * z)) ys.flatten ∧ ∀ y ∈ ys, R y := by
  intro k
  induction k with
  | zero => intro _; exact ⟨[], rfl, by rw [Nat.zero_mul, List.take_zero]; exact .nil, by simp⟩
  | succ k ih =>
   intro hk
   obtain ⟨ys, h1, h2, h3⟩ := ih (by omega)
   have h0 := hx k (by omega)
   rw [hc, List.getElem?_eq_getElem (by omega)] at h0
   obtain ⟨is, hr, hR⟩ := he _ _ _ h0
   refine ⟨ys ++ [is], by simp [h1], ?_, fun y hy => ?_⟩
   ·rw [Nat.succ_mul, List.take_add, List.flatten_append]
    simpa using zeg h2 hr
   ·rcases List.mem_append.1 hy with hy | hy
    ·exact h3 y hy
    ·rw [List.mem_singleton] at hy
     subst hy
     exact hR
 obtain ⟨ys, h1, h2, h3⟩ := build m (Nat.le_refl _)
 rw [List.take_of_length_le (by omega)] at h2
 exact ⟨_, h2, ys, h1, rfl, h3⟩
theorem zoX : ∀ {xs : List (List AI.I)}, (∀ x ∈ xs, ∃ zs : List Int, zs.length = 5 ∧ x = zs.map (fun z => AI.I.v (.int .u8 z)) ∧ ∀ z ∈ zs, (Lit.int .u8 z).wf = true) → ∃ L : List Int, L.length = 5 * xs.length ∧ xs.flatten = L.map (fun z => AI.I.v (.int .u8 z)) ∧ ∀ z ∈ L, 0 ≤ z ∧ z ≤ 255
 | [], _ => ⟨[], rfl, rfl, by simp⟩
 | x :: r, h => by
  obtain ⟨zs, h1, h2, h3⟩ := h x (by simp)
  obtain ⟨L, g1, g2, g3⟩ := zoX (xs := r) fun y hy => h y (by simp [hy])
  refine ⟨zs ++ L, by rw [List.length_append, h1, g1, List.length_cons]; omega, by rw [List.flatten_cons, h2, g2, List.map_append], fun z hz => ?_⟩
  rcases List.mem_append.1 hz with hz | hz
  ·exact wf_u8 (h3 z hz)
  ·exact g3 z hz
def OpnB (enc : TypeId × Value → H) (P : Program) (W : World) (N : Nat) (t : TypeId) (R : List AI.I → Prop) : Prop :=
 ∀ n, n < N → ∀ cs x, DataW.trod enc P W 0 (fun _ => true) true n t cs = some x → ∃ is, AI.RepL (KW W) cs is ∧ R is
theorem Opn.b {t : TypeId} {R : List AI.I → Prop} (h : Opn enc P W t R) (N : Nat) : OpnB enc P W N t R := fun n _ cs x hx => h n cs x hx
theorem Opn.ofB {t : TypeId} {R : List AI.I → Prop} (h : ∀ N, OpnB enc P W N t R) : Opn enc P W t R := fun n cs x hx => h (n + 1) n (Nat.lt_succ_self n) cs x hx
theorem OpnB.less {t : TypeId} {R : List AI.I → Prop} {N : Nat} (h : OpnB enc P W (N + 1) t R) : OpnB enc P W N t R := fun n hn cs x hx => h n (by omega) cs x hx
def AllP : List (List AI.I → Prop) → List (List AI.I) → Prop
 | [], [] => True
 | R :: Rs, a :: l => R a ∧ AllP Rs l
 | _, _ => False
def FldB (enc : TypeId × Value → H) (P : Program) (W : World) (N : Nat) : List Field → List (List AI.I → Prop) → Prop
 | [], [] => True
 | f :: fs, R :: Rs => OpnB enc P W N f.type R ∧ FldB enc P W N fs Rs
 | _, _ => False
def SeqB (P : Program) : Nat → List Field → Nat → Bool
 | o, [], n => o == n
 | o, f :: fs, n => f.offset == o && SeqB P (o + P.cellsOf f.type) fs n
theorem zg2 {N n : Nat} (hn : n < N) {cs : List Value} : ∀ {fs : List Field} {Rs : List (List AI.I → Prop)} {o : Nat}, FldB enc P W N fs Rs → SeqB P o fs cs.length = true →
  (∀ f ∈ fs, ∃ y, DataW.trod enc P W 0 (fun _ => true) true n f.type ((cs.drop f.offset).take (P.cellsOf f.type)) = some y) → ∃ parts, AI.RepL (KW W) (cs.drop o) parts.flatten ∧ AllP Rs parts
 | [], [], o, _, hs, _ => by
  have : o = cs.length := by simpa [SeqB] using hs
  subst this
  exact ⟨[], by simpa using AI.RepL.nil, trivial⟩
 | f :: fs, R :: Rs, o, ⟨hf, hF⟩, hs, hx => by
  simp only [SeqB, Bool.and_eq_true, beq_iff_eq] at hs
  obtain ⟨rfl, hs⟩ := hs
  obtain ⟨y, hy⟩ := hx f (by simp)
  obtain ⟨a, ra, ha⟩ := hf n hn _ _ hy
  obtain ⟨parts, rp, hp⟩ := zg2 hn hF hs fun g hg => hx g (by simp [hg])
  refine ⟨a :: parts, ?_, ha, hp⟩
  have e : cs.drop f.offset = (cs.drop f.offset).take (P.cellsOf f.type) ++ cs.drop (f.offset + P.cellsOf f.type) := by
   rw [← List.drop_drop, List.take_append_drop]
  rw [e, List.flatten_cons]
  exact zeg ra rp
 | [], _ :: _, _, h, _, _ => h.elim
 | _ :: _, [], _, h, _, _ => h.elim
theorem zjA {t : TypeId} {fs : Array Field} {Rs : List (List AI.I → Prop)} {N : Nat} (ht : P.underlying t = some (.struct fs)) (hs : SeqB P 0 fs.toList (P.cellsOf t) = true) (hf : FldB enc P W N fs.toList Rs) :
  OpnB enc P W (N + 1) t fun is => ∃ parts, is = parts.flatten ∧ AllP Rs parts := by
 intro n hn cs x h
 obtain ⟨xs, m, rfl, rfl, hl, hlen, hx⟩ := DataW.trod_struct ht h
 rw [← hl] at hs
 obtain ⟨parts, hr, hp⟩ := zg2 (n := m) (by omega) hf hs fun f hfm => by
  obtain ⟨i, hi, e⟩ := List.mem_iff_getElem.1 hfm
  have h1 := hx i f (by rw [← e]; simp)
  rw [h1]
  have : i < xs.length := by rw [hlen]; simpa using hi
  exact ⟨xs[i], by simp [this]⟩
 exact ⟨_, by simpa using hr, parts, rfl, hp⟩
end
section
variable {H : Type} {enc : TypeId × Value → H} {W : World}
abbrev u8V (z : Int) : AI.I := AI.I.v (.int .u8 z)
theorem opn_graph : Opn enc Tryz.prog W 26 fun is => ∃ (x y : Int) (L : List Int), is = [u8V x, u8V y] ++ L.map u8V ∧ 0 ≤ x ∧ L.length = 25 ∧ ∀ z ∈ L, 0 ≤ z ∧ z ≤ 255 := by
 intro n cs y hn
 obtain ⟨is, hr, a, b, c, rfl, ⟨x, rfl, hx⟩, ⟨y, rfl, _⟩, ⟨xs, h5, rfl, hxs⟩⟩ := zfI Tryz.underlying26 (z0 := 1) (z1 := 1) (z2 := 25) (by kernel_rfl) (by kernel_rfl) (by kernel_rfl) (by kernel_rfl) rfl rfl rfl
  (zdX Tryz.underlying5) (zdX Tryz.underlying5) (zmH Tryz.underlying24 (z := 5) (by kernel_rfl) (by kernel_rfl) (zom Tryz.underlying23 Tryz.underlying5 (by kernel_rfl) (by kernel_rfl))) n _ _ hn
 obtain ⟨L, g1, g2, g3⟩ := zoX hxs
 rw [h5] at g1
 rw [g2] at hr
 exact ⟨_, hr, x, y, L, rfl, (wf_u8 hx).1, g1, g3⟩
theorem zoM {L : List Int} (h : ∀ z ∈ L, 0 ≤ z ∧ z ≤ 255) (j : Nat) : 0 ≤ L.getD j 0 ∧ L.getD j 0 ≤ 255 := by
 rw [List.getD_eq_getElem?_getD]
 cases hj : L[j]? with
 | none => exact ⟨by decide, by decide⟩
 | some z => exact h z (List.mem_of_getElem? hj)
theorem zjB {r : Reach} {b0 : Nat} {v : Value} {d : DataW H} {p : List MemPlace} (hv : Value.okWide Tryz.prog W r b0 28 v) (h : DataW.Trod enc Tryz.prog W 0 (fun _ => true) true 28 v d p) :
  ∃ x : AI.Sk, AI.skOkB x ∧ ∀ ρ sh, AI.RepD (KW W) ρ sh v (.agg (AI.skC x)) := by
 obtain ⟨cs, rfl, _⟩ := okWide_struct Tryz.underlying28 hv
 obtain ⟨n, hn⟩ := h
 have hop : Opn enc Tryz.prog W 28 fun is => ∃ parts, is = parts.flatten ∧ AllP [_, _, _, _, _] parts := Opn.ofB fun N => (zjA (Rs := [_, _, _, _, _]) Tryz.underlying28 (by kernel_rfl) ⟨(zdX Tryz.underlying22).b N, opn_graph.b N, opn_graph.b N, (zdX Tryz.underlying22).b N, (zdX Tryz.underlying22).b N, trivial⟩).less
 obtain ⟨is, hr, parts, rfl, hp⟩ := hop n _ _ hn
 match parts, hp with
 | [_, _, _, _, _], ⟨⟨st, e1, _⟩, ⟨ps, pm, L, e2, hps, hL, hLb⟩, ⟨ss, sm, M, e3, hss, hM, hMb⟩, ⟨ob, e4, _⟩, ⟨ct, e5, _⟩, _⟩ =>
  subst e1 e2 e3 e4 e5
  refine ⟨⟨st, ps, pm, fun j => L.getD j 0, ss, sm, fun j => M.getD j 0, ob, ct⟩, ⟨⟨hps, zoM hLb⟩, ⟨hss, zoM hMb⟩⟩, fun ρ sh => ?_⟩
  have := AI.RepD.agg (AI.RepDL.ofL (ρ := ρ) (sh := sh) hr)
  match L, hL, M, hM with
  | [a0, a1, a2, a3, a4, a5, a6, a7, a8, a9, a10, a11, a12, a13, a14, a15, a16, a17, a18, a19, a20, a21, a22, a23, a24], _, [b0, b1, b2, b3, b4, b5, b6, b7, b8, b9, b10, b11, b12, b13, b14, b15, b16, b17, b18, b19, b20, b21, b22, b23, b24], _ => exact this
theorem zqF {r : Reach} {b0 : Nat} {v : Value} {d : DataW H} {p : List MemPlace} (hv : Value.okWide Tryz.prog W r b0 33 v) (h : DataW.Trod enc Tryz.prog W 0 (fun _ => true) true 33 v d p) :
  ∃ w : AI.Wit, (w.1.length ≤ AI.zan ∧ w.2.1.length ≤ AI.zan) ∧ ∀ ρ sh, AI.RepD (KW W) ρ sh v (.agg (AI.witC w)) := by
 obtain ⟨cs, rfl, _⟩ := okWide_struct Tryz.underlying33 hv
 obtain ⟨n, hn⟩ := h
 obtain ⟨is, hr, a, b, c, rfl, ⟨l, rfl, h1⟩, ⟨m, rfl, h2⟩, ⟨e, rfl, _⟩⟩ := zfI Tryz.underlying33 (z0 := 1) (z1 := 1) (z2 := 1) (by kernel_rfl) (by kernel_rfl) (by kernel_rfl) (by kernel_rfl) rfl rfl rfl
  zlj zlj (zdX Tryz.underlying3) n _ _ hn
 refine ⟨(l, m, e), ⟨h1, h2⟩, fun ρ sh => ?_⟩
 have := AI.RepD.agg (AI.RepDL.ofL (ρ := ρ) (sh := sh) hr)
 simpa [Value.cells] using this
end
end Go.Proofs.YtlcekmemdnjjbaaGreatDoor


namespace Go.Proofs.YtlcekmemdnjjbaaGreatDoor
set_option maxRecDepth 100000
theorem zbc : laidOutB Tryz.prog = true := by kernel_rfl
theorem zcK : mapsRowed Tryz.prog = true := by kernel_rfl
theorem zcE : (Rows.observabilityVerifiesRow.inPlace == Tryz.prog.inPlace 5) = true := by kernel_rfl
theorem zcD : (Rows.observabilityVerifiesRow.unfollowed == Tryz.prog.unfollowed 5) = true := by kernel_rfl
theorem zcC : (Rows.observabilityVerifiesRow.recurses == Tryz.prog.recurses 5) = true := by kernel_rfl
theorem zcB : (Rows.observabilityVerifiesRow.named == Tryz.prog.varsNamed 5) = true := by kernel_rfl
theorem zb6 : joinedFacts Tryz.prog 5 Tryz.f5 Rows.observabilityVerifiesSpec Rows.observabilityVerifiesRow = true := by
 simp only [joinedFacts, Bool.and_eq_true]
 repeat' refine And.intro ?_ ?_
 ·kernel_rfl
 ·exact zbc
 ·exact zcK
 ·kernel_rfl
 ·kernel_rfl
 ·kernel_rfl
 ·kernel_rfl
 ·kernel_rfl
 ·kernel_rfl
 ·exact zcE
 ·exact zcD
 ·exact zcC
 ·exact zcB
 ·kernel_rfl
 ·kernel_rfl
 ·kernel_rfl
 ·kernel_rfl
 ·kernel_rfl
 ·kernel_rfl
 ·kernel_rfl
 ·kernel_rfl
 ·kernel_rfl
 ·kernel_rfl
 ·kernel_rfl
 ·kernel_rfl
 ·kernel_rfl
 ·kernel_rfl
 ·kernel_rfl
 ·kernel_rfl
 ·kernel_rfl
 ·kernel_rfl
 ·kernel_rfl
theorem zcr : Tryz.prog.mainIs = some (true, "5041c38c3c15c3199033450f7632fe41f4871cb850793ec5542bbc9f8af1fc7c".toList) := by kernel_rfl
theorem zch : false = Tryz.prog.looks [] := by kernel_rfl
theorem zcs : false = Rows.observabilityVerifiesRow.goesBy Tryz.prog := by kernel_rfl
end Go.Proofs.YtlcekmemdnjjbaaGreatDoor
