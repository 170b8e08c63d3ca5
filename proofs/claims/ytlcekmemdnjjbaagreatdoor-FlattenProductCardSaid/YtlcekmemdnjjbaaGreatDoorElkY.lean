/- The layer of abstract runs, part 25. -/
import Derived.Test.YtlcekmemdnjjbaaGreatDoorElkX
set_option linter.unusedSimpArgs false
set_option linter.unusedVariables false
set_option linter.all false

namespace Go.AI
open Go.Proofs
set_option maxRecDepth 20000
abbrev u8D (x : Int) : D := .i (.v (.int .u8 x))
abbrev grC (gs gm : Int) (gt : Nat → Int) : List D := [u8D gs, u8D gm, u8D (gt 0), u8D (gt 1), u8D (gt 2), u8D (gt 3), u8D (gt 4), u8D (gt 5), u8D (gt 6), u8D (gt 7), u8D (gt 8), u8D (gt 9), u8D (gt 10), u8D (gt 11), u8D (gt 12), u8D (gt 13), u8D (gt 14), u8D (gt 15), u8D (gt 16), u8D (gt 17), u8D (gt 18), u8D (gt 19), u8D (gt 20), u8D (gt 21), u8D (gt 22), u8D (gt 23), u8D (gt 24)]
def bitP (b : Int) (i : Nat) : Bool := bits BinOp.and IntKind.u8 (b / 2 ^ Int.toNat (i : Int)) 1 == 1
def rawM (b : Int) (n : Nat) : List Int := ((List.range n).filter fun i => bitP b i).map fun (i : Nat) => (i : Int)
theorem zir (b : Int) (n : Nat) : rawM b (n + 1) = rawM b n ++ if bitP b n = true then [(n : Int)] else [] := by
 unfold rawM
 rw [List.range_succ, List.filter_append, List.map_append]
 congr 1
 by_cases h : bitP b n = true <;> simp [h]
theorem zfh (b : Int) (n : Nat) : (rawM b n).length ≤ n := by
 unfold rawM
 rw [List.length_map]
 exact Nat.le_trans (List.length_filter_le _ _) (by simp)
abbrev za1 (b : Int) : List Int := rawM b 5
theorem zhZ (O : List Heap) (b : Int) : zan Tryz.prog 30 [u8D b] O (ints (za1 b)) [] O := by
 refine zaC [7] Tk Tryz.func30 rfl Tryz.call30 Tryz.ntmps30 (Nat.le_of_ble_eq_true rfl) fun E => ?_
 refine zaf Tk Tryz.func30 ?_
 refine zad ?_
 refine zaw (zcT 3 17 3 1 rfl rfl rfl) ?_
 refine zag (fun i : Nat => [(0, u8D b), (3, .osl 0 17), (4, ii i)]) (fun i => [(17, zaK (rawM b i))]) (fun _ => O) 19
  (fun i => i ≤ 5) (fun i => 5 - i) 0 (Nat.zero_le _) ⟨rfl, rfl, rfl, trivial⟩ rfl ⟨rfl, trivial⟩ rfl rfl ?_
 intro i hi ih
 have hj1 : ii (IntKind.i64.wrap ((i : Int) + 1)) = ii ((i + 1 : Nat) : Int) := congrArg ii (zaB (n := 1000001) (by omega) (by decide))
 have hs := zir b i
 have hl := zfh b i
 refine zaf Tk Tryz.func30 ?_
 refine zae Tk Tryz.func30 rfl (fun g1 => ?_) (fun g1 => ?_)
 ·have g1 : (i : Int) < 5 := of_decide_eq_true g1
  refine zak Tk Tryz.func30 (by exact ⟨by omega, by show (i : Int) ≤ (8 : Nat); omega⟩) ?_
  refine zae Tk Tryz.func30 rfl (fun g2 => ?_) (fun g2 => ?_)
  ·have g2 : bitP b i = true := g2
   rw [if_pos g2] at hs
   refine zak Tk Tryz.func30 (by exact ⟨by show ((rawM b i).length + 1) * 8 ≤ 140737488355328; omega, by show (rawM b i).length + 1 ≤ 9223372036854775807; omega⟩) ?_
   refine zad ?_
   refine ih (i + 1) _ _ (by omega) (by omega) ⟨rfl, rfl, hj1, trivial⟩ rfl ⟨?_, trivial⟩ rfl rfl
   rw [hs]
   exact congrArg some (zaR (rawM b i) (i : Int))
  ·have g2 : ¬ bitP b i = true := by intro h; exact absurd (g2.symm.trans h) (by decide)
   rw [if_neg g2, List.append_nil] at hs
   refine zad ?_
   exact ih (i + 1) _ _ (by omega) (by omega) ⟨rfl, rfl, hj1, trivial⟩ rfl ⟨by rw [hs]; rfl, trivial⟩ rfl rfl
 ·have g1 : ¬ (i : Int) < 5 := of_decide_eq_false g1
  obtain rfl : i = 5 := by omega
  refine zax ?_
  refine zaw (zap 17 rfl rfl) ?_
  refine zaf Tk Tryz.func30 ?_
  refine g_go Tk Tryz.func30 ?_
  refine zai Tk (r := ints (za1 b)) rfl rfl rfl trivial rfl rfl ?_
  rfl
def tgtV (x : Int) (n : Nat) : Int := (IntKind.i64.wrap x).tmod (IntKind.i64.wrap ((n : Int) + 2))
def rowE (gt : Nat → Int) (n i : Nat) (s : List Int) (k : Nat) : List Edg := (List.range k).filterMap fun k => match s[k]? with
 | some ev => if tgtV (gt (5 * i + k)) n < n then some ((i : Int), ev, tgtV (gt (5 * i + k)) n) else none
 | none => none
theorem zoh {gt : Nat → Int} {n i : Nat} {s : List Int} {k : Nat} {ev : Int} (h : s[k]? = some ev) : rowE gt n i s (k + 1) = rowE gt n i s k ++ if tgtV (gt (5 * i + k)) n < n then [((i : Int), ev, tgtV (gt (5 * i + k)) n)] else [] := by
 unfold rowE
 rw [List.range_succ, List.filterMap_append]
 congr 1
 by_cases c : tgtV (gt (5 * i + k)) n < n <;> simp [h, c]
theorem zk5 (gt : Nat → Int) (n i : Nat) (s : List Int) (k : Nat) : (rowE gt n i s k).length ≤ k := Nat.le_trans (List.length_filterMap_le _ _) (by simp)
def rawE (gt : Nat → Int) (n : Nat) (s : List Int) (i : Nat) : List Edg := (List.range i).flatMap fun i => rowE gt n i s s.length
theorem zis (gt : Nat → Int) (n : Nat) (s : List Int) (i : Nat) : rawE gt n s (i + 1) = rawE gt n s i ++ rowE gt n i s s.length := by
 unfold rawE
 rw [List.range_succ, List.flatMap_append]
 simp
theorem zhx (gt : Nat → Int) (n : Nat) (s : List Int) : ∀ i, (rawE gt n s i).length ≤ s.length * i
 | 0 => by simp [rawE]
 | i + 1 => by
  have := zhx gt n s i
  have := zk5 gt n i s s.length
  rw [zis, List.length_append, Nat.mul_add, Nat.mul_one]
  omega
def rawN (gs : Int) : Nat := 1 + (gs % 5).toNat
def rawA (s : List Int) (gs gm : Int) (gt : Nat → Int) : Aut := ⟨s, rawN gs, rawM gm (rawN gs), rawE gt (rawN gs) s (rawN gs)⟩
def mkA (s : List Int) (gs gm : Int) (gt : Nat → Int) : Aut := if gs ≥ 250 then ⟨s, 0, [], []⟩ else canR (rawA s gs gm gt) (zbQ (rawA s gs gm gt))
set_option maxHeartbeats 16000000 in
theorem zoE (O : List Heap) (s : List Int) (gs gm : Int) (gt : Nat → Int) (hsl : s.length ≤ 5) (hg0 : 0 ≤ gs) (hok : autOk (rawA s gs gm gt)) (hF : (zbQ (rawA s gs gm gt)).length ≤ 4096) :
    zan Tryz.prog 29 [ints s, .agg (grC gs gm gt)] O (autD (mkA s gs gm gt)) [] O := by
  have hem := fun O => zly O s (by omega)
  have hcan := fun O => zkc O (rawA s gs gm gt) hok (by show (1 : Int) ≤ ((rawN gs : Nat) : Int); unfold rawN; omega) _ rfl hF
  have hn : IntKind.i64.wrap (1 + IntKind.i64.wrap (gs.tmod 5)) = ((rawN gs : Nat) : Int) := by
    rw [Int.tmod_eq_emod_of_nonneg hg0]
    have h1 : 0 ≤ gs % 5 ∧ gs % 5 < 5 := ⟨Int.emod_nonneg _ (by decide), Int.emod_lt_of_pos _ (by decide)⟩
    have w1 : IntKind.i64.wrap (gs % 5) = gs % 5 := w64 (by omega) (by omega)
    rw [w1, w64 (by omega) (by omega)]
    unfold rawN
    omega
  have hn5 : rawN gs ≤ 5 := by
    have h1 : 0 ≤ gs % 5 ∧ gs % 5 < 5 := ⟨Int.emod_nonneg _ (by decide), Int.emod_lt_of_pos _ (by decide)⟩
    unfold rawN
    omega
  unfold mkA
  refine zaC [10, 13, 14, 16] Tk Tryz.func29 rfl Tryz.call29 Tryz.ntmps29 (Nat.le_of_ble_eq_true rfl) fun E => ?_
  refine zaf Tk Tryz.func29 ?_
  refine zae Tk Tryz.func29 rfl (fun c1 => ?_) (fun c1 => ?_)
  · rw [if_pos (of_decide_eq_true c1)]
    refine zaj Tk Tryz.func29 (hem _) rfl rfl rfl rfl rfl ?_
    refine zao Tk (r := .agg [ints s, ii 0, .i (.v (.slice none 0 0)), .i (.v (.slice none 0 0))]) rfl rfl rfl trivial rfl rfl ?_
    repeat' (first | refine zbK ?_ | refine zbZ ?_ | refine zbY ?_ | refine CoDL.cons ?_ ?_ | exact CoDL.nil | exact zaW | refine zeY ?_ | refine CoLL.cons ?_ ?_ | exact CoLL.nil | refine CoL.cons ?_ ?_ | exact CoL.nil | exact CoI.refl _ | exact CoL.refl _ | exact CoLL.refl _ | exact CoDL.refl _ | exact CoD.refl _)
  rw [if_neg (of_decide_eq_false c1)]
  clear c1
  generalize canR (rawA s gs gm gt) (zbQ (rawA s gs gm gt)) = R at *
  have hcan : ∀ O, zan Tryz.prog 76 [.agg [ints s, ii (rawN gs), ints (rawM gm (rawN gs)), edgs (rawE gt (rawN gs) s (rawN gs))]] O (autD R) [] O := hcan
  generalize rawN gs = n at *
  refine zaj Tk Tryz.func29 (hem _) rfl rfl rfl rfl rfl ?_
  refine zak Tk Tryz.func29 (by decide) ?_
  refine zad ?_
  refine zaw (zaP 5 38 3 1 (pre := [ints s, ii _]) (post := [.i (.v (.slice none 0 0))]) rfl rfl rfl) ?_
  refine zaw (zaP 5 75 117 3 (pre := [ints s, ii _, .osl 0 38]) (post := []) rfl rfl rfl) ?_
  refine zag (fun i : Nat => [(0, ints s), (3, .own 0 3 0 0), (4, .own 0 4 0 0), (5, .own 0 5 0 0), (6, ii i)]) (fun i => [(3, .box (grC gs gm gt)), (4, zBox), (5, .box [ints s, ii n, .osl 0 38, .osl 0 75]), (38, zaK (rawM gm i)), (75, zcR (rawE gt n s i))]) (fun _ => O) 79
    (fun i => i ≤ n) (fun i => n - i) 0 (Nat.zero_le _) ⟨rfl, rfl, rfl, rfl, rfl, trivial⟩ rfl ⟨rfl, rfl, congrArg (fun z => some (Ob.box [ints s, ii z, .osl 0 38, .osl 0 75])) hn, rfl, rfl, trivial⟩ rfl rfl ?_
  intro i hi ih
  have hi1 : ii (IntKind.i64.wrap ((i : Int) + 1)) = ii ((i + 1 : Nat) : Int) := congrArg ii (zaB (n := 1000001) (by omega) (by decide))
  refine zaf Tk Tryz.func29 ?_
  refine zae Tk Tryz.func29 rfl (fun g1 => ?_) (fun g1 => ?_)
  · have h2 : i < n := by simpa using g1
    clear g1
    have hm3 := zir gm i
    have hml := zfh gm i
    refine zak Tk Tryz.func29 (by exact ⟨by omega, by show (i : Int) ≤ (8 : Nat); omega⟩) ?_
    apply zbP (P := True) (s6 := { σ := [(0, ints s), (3, .own 0 3 0 0), (4, .own 0 4 0 0), (5, .own 0 5 0 0), (6, ii i)], S := [(3, .box (grC gs gm gt)), (4, zBox), (5, .box [ints s, ii n, .osl 0 38, .osl 0 75]), (38, zaK (rawM gm (i + 1))), (75, zcR (rawE gt n s i))] :: O, n := 79 })
    · intro J
      refine zae Tk Tryz.func29 rfl (fun d1 => ?_) (fun d1 => ?_)
      · have d1 : bitP gm i = true := d1
        rw [if_pos d1] at hm3
        refine zak Tk Tryz.func29 (by exact ⟨by show ((rawM gm i).length + 1) * 8 ≤ 140737488355328; omega, by show (rawM gm i).length + 1 ≤ 9223372036854775807; omega⟩) ?_
        refine zax ?_
        refine zaJ (J trivial) ⟨rfl, rfl, rfl, rfl, rfl, trivial⟩ rfl ⟨rfl, rfl, rfl, ?_, rfl, trivial⟩ rfl rfl
        rw [hm3]
        exact congrArg some (zaR (rawM gm i) (i : Int))
      · have d1 : ¬ bitP gm i = true := by intro h; exact absurd (d1.symm.trans h) (by decide)
        rw [if_neg d1, List.append_nil] at hm3
        refine zax ?_
        refine zaJ (J trivial) ⟨rfl, rfl, rfl, rfl, rfl, trivial⟩ rfl ⟨rfl, rfl, rfl, by rw [hm3]; rfl, rfl, trivial⟩ rfl rfl
    intro _
    clear hm3 hml
    have hE := zis gt n s i
    have hEl := zhx gt n s i
    have hEl2 : s.length * i ≤ 5 * 5 := Nat.mul_le_mul hsl (by omega)
    refine zaf Tk Tryz.func29 ?_
    refine g_go Tk Tryz.func29 ?_
    refine zad ?_
    refine zag (fun k : Nat => [(0, ints s), (3, .own 0 3 0 0), (4, .own 0 4 0 0), (5, .own 0 5 0 0), (6, ii i), (7, ii k)]) (fun k => [(3, .box (grC gs gm gt)), (4, zBox), (5, .box [ints s, ii n, .osl 0 38, .osl 0 75]), (38, zaK (rawM gm (i + 1))), (75, zcR (rawE gt n s i ++ rowE gt n i s k))]) (fun _ => O) 79
      (fun k => k ≤ s.length) (fun k => s.length - k) 0 (Nat.zero_le _) ⟨rfl, rfl, rfl, rfl, rfl, rfl, trivial⟩ rfl ⟨rfl, rfl, rfl, rfl, by show some (zcR (rawE gt n s i)) = some (zcR (rawE gt n s i ++ [])); rw [List.append_nil], trivial⟩ rfl rfl ?_
    intro k hk ih2
    refine zaf Tk Tryz.func29 ?_
    refine zaF Tk Tryz.func29 rfl (fun g2 => ?_) (fun g2 => ?_)
    · have h3 : k < s.length := by simpa using g2
      clear g2
      refine zae Tk Tryz.func29 rfl (fun g3 => ?_) (fun g3 => ?_)
      rotate_left
      · have g3 : ¬ (k : Int) < 5 := of_decide_eq_false g3
        omega
      clear g3
      have ga : (s.map fun x => [vi x])[(k : Int).toNat]? = some [vi s[k]] := zah (f := fun x => [vi x]) h3
      have htk := zoh (gt := gt) (n := n) (i := i) (List.getElem?_eq_getElem h3)
      have hpl := zk5 gt n i s k
      have n2 : 0 ≤ (k : Int) ∧ (k : Int) < (s.length : Int) := by omega
      have hj1 : ii (IntKind.i64.wrap ((k : Int) + 1)) = ii ((k + 1 : Nat) : Int) := congrArg ii (zaB (n := 1000001) (by omega) (by decide))
      generalize s[k] = ev at *
      have hnz : IntKind.i64.wrap ((n : Int) + 2) ≠ 0 := by rw [w64 (by omega) (by omega)]; omega
      apply zbP (P := True) (s6 := { σ := [(0, ints s), (3, .own 0 3 0 0), (4, .own 0 4 0 0), (5, .own 0 5 0 0), (6, ii i), (7, ii k), (8, ii (tgtV (gt (5 * i + k)) n))], S := [(3, .box (grC gs gm gt)), (4, zBox), (5, .box [ints s, ii n, .osl 0 38, .osl 0 75]), (38, zaK (rawM gm (i + 1))), (75, zcR (rawE gt n s i ++ rowE gt n i s k))] :: O, n := 79 })
      · intro J
        have hi5 : i = 0 ∨ i = 1 ∨ i = 2 ∨ i = 3 ∨ i = 4 := by omega
        have hk5 : k = 0 ∨ k = 1 ∨ k = 2 ∨ k = 3 ∨ k = 4 := by omega
        rcases hi5 with rfl | rfl | rfl | rfl | rfl <;> rcases hk5 with rfl | rfl | rfl | rfl | rfl <;>
          (refine g_go Tk Tryz.func29 ?_
           refine zaq Tk Tryz.func29 zay rfl ?_
           refine zat Tk (by decide) ?_
           refine zat Tk (by decide) ?_
           refine zat Tk hnz ?_
           refine zav Tk Tryz.func29 (by kernel_rfl) ?_
           refine zax ?_
           exact zaJ (J trivial) ⟨rfl, rfl, rfl, rfl, rfl, rfl, rfl, trivial⟩ rfl ⟨rfl, rfl, rfl, rfl, rfl, trivial⟩ rfl rfl)
      intro _
      refine zaf Tk Tryz.func29 ?_
      refine g_go Tk Tryz.func29 ?_
      refine zae Tk Tryz.func29 rfl (fun d1 => ?_) (fun d1 => ?_)
      · have d1 : tgtV (gt (5 * i + k)) n < n := of_decide_eq_true d1
        rw [if_pos d1] at htk
        refine zaq Tk Tryz.func29 zay rfl ?_
        refine zat Tk (by exact n2) ?_
        refine zaA Tk (ga) ?_
        refine zlz Tk Tryz.func29 ([10, 11, 12]) (by kernel_rfl) (by kernel_rfl) ?_
        refine zak Tk Tryz.func29 (by exact ⟨by show ((rawE gt n s i ++ rowE gt n i s k).length + 1) * 24 ≤ 140737488355328; rw [List.length_append]; omega, by show (rawE gt n s i ++ rowE gt n i s k).length + 1 ≤ 9223372036854775807; rw [List.length_append]; omega⟩) ?_
        refine zad ?_
        refine ih2 (k + 1) _ _ h3 (by omega) ⟨rfl, rfl, rfl, rfl, rfl, hj1, trivial⟩ rfl ⟨rfl, rfl, rfl, rfl, ?_, trivial⟩ rfl rfl
        rw [htk, ← List.append_assoc]
        exact congrArg some (zfQ (rawE gt n s i ++ rowE gt n i s k) ((i : Int), ev, tgtV (gt (5 * i + k)) n))
      · have d1 : ¬ tgtV (gt (5 * i + k)) n < n := of_decide_eq_false d1
        rw [if_neg d1, List.append_nil] at htk
        refine zad ?_
        exact ih2 (k + 1) _ _ h3 (by omega) ⟨rfl, rfl, rfl, rfl, rfl, hj1, trivial⟩ rfl ⟨rfl, rfl, rfl, rfl, by rw [htk]; rfl, trivial⟩ rfl rfl
    · have h3 : s.length ≤ k := by simpa using g2
      have hk2 : k = s.length := by omega
      refine gcF Tk Tryz.func29 rfl ?_
      refine zad ?_
      refine ih (i + 1) _ _ h2 (by omega) ⟨rfl, rfl, rfl, rfl, hi1, trivial⟩ rfl ⟨rfl, rfl, rfl, rfl, ?_, trivial⟩ rfl rfl
      show some (zcR (rawE gt n s i ++ rowE gt n i s k)) = _
      rw [hk2, hE]
  · have h2 : n ≤ i := by simpa using g1
    obtain rfl : i = n := by omega
    refine zax ?_
    refine zaw (zap 38 rfl rfl) ?_
    refine zaw (zap 75 rfl rfl) ?_
    refine zaw (zcs rfl) ?_
    refine zaf Tk Tryz.func29 ?_
    refine g_go Tk Tryz.func29 ?_
    refine zaj Tk Tryz.func29 (hcan _) rfl rfl rfl rfl rfl ?_
    refine zai Tk (r := autD R) rfl rfl rfl trivial rfl rfl ?_
    rfl
end Go.AI


namespace Go.AI
theorem zj6 {a : Aut} (h1 : zal 32 a.alpha none = 0) (h2 : 0 ≤ a.states ∧ a.states ≤ 4096) (h3 : zal a.states a.marked none = 0) (h4 : zcd a.alpha a.states none a.edges = 0) : chkA a = 0 := by
 unfold chkA
 rw [if_neg (by rw [h1]; simp), if_neg (by omega), if_neg (by omega)]
 first
  | (rw [if_neg (by rw [h3]; simp)]; exact h4)
  | (simp only [h3, h4]; simp)
theorem zjp {f : Nat → List Edg} (h1 : ∀ i, ∀ x ∈ f i, x.1 = (i : Int)) (h2 : ∀ i, (f i).Pairwise fun x y => x.2.1 < y.2.1) : ∀ n, ((List.range n).flatMap f).Pairwise ltE
 | 0 => by simp
 | n + 1 => by
  rw [List.range_succ, List.flatMap_append, List.pairwise_append]
  refine ⟨zjp h1 h2 n, ?_, ?_⟩
  ·rw [List.flatMap_cons, List.flatMap_nil, List.append_nil]
   have : (f n).Pairwise fun x y => (x ∈ f n ∧ y ∈ f n) ∧ x.2.1 < y.2.1 := List.Pairwise.imp_of_mem (fun {a b} ha hb h => ⟨⟨ha, hb⟩, h⟩) (h2 n)
   exact this.imp fun {x y} h => .inr ⟨by rw [h1 n x h.1.1, h1 n y h.1.2], h.2⟩
  ·intro x hx y hy
   obtain ⟨i, hi, hx⟩ := List.mem_flatMap.1 hx
   rw [List.flatMap_cons, List.flatMap_nil, List.append_nil] at hy
   have := List.mem_range.1 hi
   exact .inl (by rw [h1 i x hx, h1 n y hy]; omega)
theorem zom (b : Int) (n : Nat) : (rawM b n).Pairwise (· < ·) ∧ ∀ x ∈ rawM b n, 0 ≤ x ∧ x < (n : Int) := by
 unfold rawM
 refine ⟨?_, fun x hx => ?_⟩
 ·rw [List.pairwise_map]
  have : (List.range n).Pairwise (· < ·) := List.pairwise_lt_range
  exact (this.filter _).imp fun {a b} h => by omega
 ·obtain ⟨i, hi, rfl⟩ := List.mem_map.1 hx
  have := List.mem_range.1 (List.mem_filter.1 hi).1
  omega
theorem zrV {x : Int} {n : Nat} (hx : 0 ≤ x ∧ x ≤ 255) (hn : n ≤ 5) : 0 ≤ tgtV x n := by
 unfold tgtV
 rw [w64 (by omega) (by omega), w64 (by omega) (by omega)]
 exact Int.tmod_nonneg _ hx.1
theorem zrw (gs : Int) : 1 ≤ rawN gs ∧ rawN gs ≤ 5 := by
 have h1 : 0 ≤ gs % 5 ∧ gs % 5 < 5 := ⟨Int.emod_nonneg _ (by decide), Int.emod_lt_of_pos _ (by decide)⟩
 unfold rawN
 omega
theorem zlj {gt : Nat → Int} {n i : Nat} {s : List Int} {k : Nat} {x : Edg} (h : x ∈ rowE gt n i s k) : ∃ j, j < k ∧ ∃ ev, s[j]? = some ev ∧ tgtV (gt (5 * i + j)) n < n ∧ x = ((i : Int), ev, tgtV (gt (5 * i + j)) n) := by
 unfold rowE at h
 obtain ⟨j, hj, hx⟩ := List.mem_filterMap.1 h
 refine ⟨j, List.mem_range.1 hj, ?_⟩
 cases hs : s[j]? with
 | none => rw [hs] at hx; cases hx
 | some ev =>
  rw [hs] at hx
  by_cases c : tgtV (gt (5 * i + j)) n < n
  ·simp only [c, if_true, Option.some.injEq] at hx
   exact ⟨ev, rfl, c, hx.symm⟩
  ·simp only [c, if_false] at hx
   cases hx
theorem zs1 {s : List Int} {gs gm : Int} {gt : Nat → Int} (hs : s.Pairwise (· < ·)) (hr : ∀ x ∈ s, 0 ≤ x ∧ x < 32) (hsl : s.length ≤ 5) (hg : ∀ j, 0 ≤ gt j ∧ gt j ≤ 255) : autOk (rawA s gs gm gt) := by
 obtain ⟨n1, n5⟩ := zrw gs
 have hm := zom gm (rawN gs)
 have hml := zfh gm (rawN gs)
 have hel := zhx gt (rawN gs) s (rawN gs)
 have hel2 : s.length * rawN gs ≤ 5 * 5 := Nat.mul_le_mul hsl n5
 refine ⟨by show (rawE gt (rawN gs) s (rawN gs)).length ≤ 1000000; omega, by show s.length ≤ 1000000; omega, by show (rawM gm (rawN gs)).length ≤ 1000000; omega, zj6 ?_ ?_ ?_ ?_⟩
 ·exact zbL hs hr (fun y e => by cases e)
 ·show (0 : Int) ≤ ((rawN gs : Nat) : Int) ∧ ((rawN gs : Nat) : Int) ≤ 4096
  omega
 ·exact zbL hm.1 hm.2 (fun y e => by cases e)
 ·refine zgl ?_ ?_ (fun y e => by cases e)
  ·refine zjp (fun i x hx => ?_) (fun i => ?_) _
   ·obtain ⟨j, _, ev, _, _, rfl⟩ := zlj hx
    rfl
   ·unfold rowE
    have hrg : (List.range s.length).Pairwise (· < ·) := List.pairwise_lt_range
    refine List.Pairwise.filterMap _ (fun a b hab x hx y hy => ?_) hrg
    have hget : ∀ {a : Nat} {x : Edg}, (match s[a]? with
      | some ev => if tgtV (gt (5 * i + a)) (rawN gs) < (rawN gs : Int) then some ((i : Int), ev, tgtV (gt (5 * i + a)) (rawN gs)) else none
      | none => none) = some x → s[a]? = some x.2.1 := by
     intro a x hx
     cases hs : s[a]? with
     | none => rw [hs] at hx; cases hx
     | some ev =>
      rw [hs] at hx
      by_cases c : tgtV (gt (5 * i + a)) (rawN gs) < (rawN gs : Int)
      ·simp only [c, if_true, Option.some.injEq] at hx
       rw [← hx]
      ·simp only [c, if_false] at hx
       cases hx
    have hx := hget hx
    have hy := hget hy
    obtain ⟨ha, ha2⟩ := List.getElem?_eq_some_iff.1 hx
    obtain ⟨hb, hb2⟩ := List.getElem?_eq_some_iff.1 hy
    rw [← ha2, ← hb2]
    exact List.pairwise_iff_getElem.1 hs a b ha hb hab
  ·intro x hx
   obtain ⟨i, hi, hx⟩ := List.mem_flatMap.1 hx
   have hi := List.mem_range.1 hi
   obtain ⟨j, _, ev, he, ht, rfl⟩ := zlj hx
   have := zrV (hg (5 * i + j)) n5
   refine ⟨⟨by simp only; omega, ?_⟩, ⟨this, ht⟩, List.mem_of_getElem? he⟩
   show (i : Int) < ((rawN gs : Nat) : Int)
   omega
theorem zjN {es : List Edg} {s n : Int} (hes : ∀ x ∈ es, 0 ≤ x.2.2 ∧ x.2.2 < n) : ∀ {al out : List Int}, fOk n out → fOk n (fvis es s al out)
 | [], out, h => h
 | ev :: r, out, h => by
  simp only [fvis]
  split
  ·rename_i c
   refine zjN hes (zo5 h ?_ c.2)
   rcases znY (n := n) (es := es) (s := s) (ev := ev) hes with h1 | h1
   ·rw [h1] at c; exact absurd c.1 (by decide)
   ·exact h1
  ·exact zjN hes h
theorem fvis_pre {es : List Edg} {s : Int} : ∀ {al out : List Int}, out <+: fvis es s al out
 | [], out => List.prefix_refl _
 | ev :: r, out => by
  simp only [fvis]
  split
  ·exact (List.prefix_append _ _).trans fvis_pre
  ·exact fvis_pre
theorem zls {es : List Edg} {s : Int} : ∀ {al out : List Int} {ev : Int}, ev ∈ al → 0 ≤ stp3 es s ev → stp3 es s ev ∈ fvis es s al out
 | e :: r, out, ev, h, c => by
  simp only [fvis]
  rcases List.mem_cons.1 h with rfl | h
  ·by_cases c2 : stp3 es s ev ∈ out
   ·rw [if_neg (fun h => h.2 c2)]
    exact fvis_pre.subset c2
   ·rw [if_pos ⟨c, c2⟩]
    exact fvis_pre.subset (by simp)
  ·exact zls h c
theorem zoW {es : List Edg} {al : List Int} {n : Nat} (hn : 1 ≤ n) (hes : ∀ x ∈ es, 0 ≤ x.2.2 ∧ x.2.2 < (n : Int)) {N : Nat} (hN : n < N) : ∀ (f i : Nat) (out : List Int), f + i = N → i ≤ out.length → fOk n out → (∀ s ∈ out.take i, ∀ ev ∈ al, 0 ≤ stp3 es s ev → stp3 es s ev ∈ out) →
  fOk n (fndL es al f i out) ∧ (∀ s ∈ fndL es al f i out, ∀ ev ∈ al, 0 ≤ stp3 es s ev → stp3 es s ev ∈ fndL es al f i out) ∧ out <+: fndL es al f i out
 | 0, i, out, hf, hi, h, _ => by
  rcases zhV h with h1 | h1
  ·omega
  ·rw [h1] at hi
   simp at hi
   omega
 | f + 1, i, out, hf, hi, h, hc => by
  simp only [fndL]
  cases hg : out[i]? with
  | none =>
   have : out.length ≤ i := by
    rcases Nat.lt_or_ge i out.length with h1 | h1
    ·rw [List.getElem?_eq_getElem h1] at hg; cases hg
    ·exact h1
   rw [List.take_of_length_le this] at hc
   exact ⟨h, hc, List.prefix_refl _⟩
  | some s =>
   have hlt : i < out.length := (List.getElem?_eq_some_iff.1 hg).1
   have hp := fvis_pre (es := es) (s := s) (al := al) (out := out)
   obtain ⟨r, hr⟩ := hp
   have htk : (fvis es s al out).take (i + 1) = out.take i ++ [s] := by
    rw [← hr, List.take_append_of_le_length (by omega), List.take_add_one, hg]; rfl
   obtain ⟨h1, h2, h3⟩ := zoW hn hes hN f (i + 1) (fvis es s al out) (by omega) (by rw [← hr, List.length_append]; omega) (zjN hes h) (fun t ht ev he c => by
    rw [htk, List.mem_append, List.mem_singleton] at ht
    rcases ht with ht | rfl
    ·exact fvis_pre.subset (hc t ht ev he c)
    ·exact zls he c)
   exact ⟨h1, h2, fvis_pre.trans h3⟩
theorem zq1 {a : Aut} {n : Nat} (hst : a.states = n) (hn : 1 ≤ n ∧ n ≤ 4096) (hes : ∀ x ∈ a.edges, 0 ≤ x.2.2 ∧ x.2.2 < (n : Int)) :
  fOk n (zbQ a) ∧ (∀ s ∈ zbQ a, ∀ ev ∈ a.alpha, 0 ≤ stp3 a.edges s ev → stp3 a.edges s ev ∈ zbQ a) ∧ [(0 : Int)] <+: zbQ a :=
 zoW hn.1 hes (N := 4097) (by omega) 4097 0 [0] rfl (by simp) ⟨by simp, fun x hx => by rw [List.mem_singleton] at hx; subst hx; constructor <;> omega⟩ (by simp)
theorem zoQ {t : Int} : ∀ {l : List Int} {i : Nat}, t ∈ l → (i : Int) ≤ idxI t l i ∧ idxI t l i < (i + l.length : Nat)
 | [], _, h => by simp at h
 | y :: r, i, h => by
  simp only [idxI]
  split
  ·constructor
   ·omega
   ·simp only [List.length_cons]; omega
  ·rename_i hne
   have hr : t ∈ r := by
    rcases List.mem_cons.1 h with rfl | h
    ·simp at hne
    ·exact h
   have := zoQ (i := i + 1) hr
   simp only [List.length_cons]
   constructor <;> omega
theorem ztA {a : Aut} {n : Nat} (ha : autOk a) (hst : a.states = n) (hn : 1 ≤ n ∧ n ≤ 4096) : gAut (canR a (zbQ a)) (zbQ a).length ∧ (zbQ a).length ≤ n := by
 obtain ⟨c1, c2, c3, c4⟩ := zba ha.chk
 obtain ⟨_, eb, _⟩ := za8 c4
 have hes : ∀ x ∈ a.edges, 0 ≤ x.2.2 ∧ x.2.2 < (n : Int) := fun x hx => by have := (eb x hx).2.1; rw [hst] at this; exact this
 obtain ⟨f1, f2, f3⟩ := zq1 hst hn hes
 have hal := zbt (by decide) c1
 have hal : a.alpha.length ≤ 32 := by omega
 have hpw := (zaD c1).1
 have hF : (zbQ a).length ≤ n := by
  rcases zhV f1 with h | h
  ·omega
  ·rw [h]; simp
 generalize zbQ a = F at *
 have hce := zpq (es := a.edges) (F := F) (al := a.alpha) (i := F.length) hal
 have hcm := zpp (F := F) (marked := a.marked) (i := F.length)
 refine ⟨⟨rfl, ⟨?_, ?_, ?_⟩, zj6 c1 ?_ ?_ ?_⟩, hF⟩
 ·show (cEd a.edges F a.alpha F.length).length ≤ 1000000
  omega
 ·exact ha.al
 ·show (cMk F a.marked F.length).length ≤ 1000000
  omega
 ·show (0 : Int) ≤ (F.length : Int) ∧ (F.length : Int) ≤ 4096
  omega
 ·show zal (F.length : Int) (cMk F a.marked F.length) none = 0
  unfold cMk
  refine zbL ?_ (fun x hx => ?_) (fun y e => by cases e)
  ·rw [List.pairwise_map]
   have : (List.range F.length).Pairwise (· < ·) := List.pairwise_lt_range
   exact (this.filter _).imp fun {a b} h => by omega
  ·obtain ⟨i, hi, rfl⟩ := List.mem_map.1 hx
   have := List.mem_range.1 (List.mem_filter.1 hi).1
   omega
 ·show zcd a.alpha (F.length : Int) none (cEd a.edges F a.alpha F.length) = 0
  have hmem : ∀ {k : Nat} {x : Edg}, x ∈ (match F[k]? with
    | none => []
    | some s => a.alpha.filterMap (cOf a.edges F k s)) → ∃ s, F[k]? = some s ∧ x.1 = (k : Int) ∧ x.2.1 ∈ a.alpha ∧ 0 ≤ stp3 a.edges s x.2.1 ∧ x.2.2 = idxI (stp3 a.edges s x.2.1) F 0 := by
   intro k x hx
   cases hs : F[k]? with
   | none => rw [hs] at hx; cases hx
   | some s =>
    rw [hs] at hx
    obtain ⟨ev, he, hx⟩ := List.mem_filterMap.1 hx
    unfold cOf at hx
    by_cases c : 0 ≤ stp3 a.edges s ev
    ·rw [if_pos c] at hx
     obtain rfl := Option.some.inj hx
     exact ⟨s, rfl, rfl, he, c, rfl⟩
    ·rw [if_neg c] at hx; cases hx
  unfold cEd
  refine zgl (zjp (fun i x hx => ?_) (fun i => ?_) _) (fun x hx => ?_) (fun y e => by cases e)
  ·obtain ⟨_, _, h, _⟩ := hmem hx
   exact h
  ·cases hs : F[i]? with
   | none => exact .nil
   | some s =>
    refine List.Pairwise.filterMap _ (fun p q hpq x hx y hy => ?_) hpw
    unfold cOf at hx hy
    by_cases cp : 0 ≤ stp3 a.edges s p
    ·by_cases cq : 0 ≤ stp3 a.edges s q
     ·rw [if_pos cp] at hx
      rw [if_pos cq] at hy
      obtain rfl := Option.some.inj hx
      obtain rfl := Option.some.inj hy
      exact hpq
     ·rw [if_neg cq] at hy; cases hy
    ·rw [if_neg cp] at hx; cases hx
  ·obtain ⟨i, hi, hx⟩ := List.mem_flatMap.1 hx
   have hi := List.mem_range.1 hi
   obtain ⟨s, hs, h1, h2, h3, h4⟩ := hmem hx
   have h5 := f2 s (List.mem_of_getElem? hs) _ h2 h3
   have h6 := zoQ (i := 0) h5
   refine ⟨by rw [h1]; omega, ?_, h2⟩
   rw [h4]
   constructor
   ·have := h6.1; omega
   ·have := h6.2; omega
theorem ziB {s : List Int} {gs gm : Int} {gt : Nat → Int} (hs : s.Pairwise (· < ·)) (hr : ∀ x ∈ s, 0 ≤ x ∧ x < 32) (hsl : s.length ≤ 5) (hg : ∀ j, 0 ≤ gt j ∧ gt j ≤ 255) :
  (autOk (rawA s gs gm gt) ∧ (zbQ (rawA s gs gm gt)).length ≤ 4096) ∧ (∃ n, n ≤ 5 ∧ gAut (mkA s gs gm gt) n) ∧ (mkA s gs gm gt).alpha = s := by
 have hok := zs1 (gs := gs) (gm := gm) hs hr hsl hg
 obtain ⟨n1, n5⟩ := zrw gs
 obtain ⟨h1, h2⟩ := ztA hok (n := rawN gs) rfl ⟨n1, by omega⟩
 refine ⟨⟨hok, by omega⟩, ?_, ?_⟩
 ·unfold mkA
  split
  ·refine ⟨0, by omega, rfl, ⟨by simp, by simp only; omega, by simp⟩, zj6 (zbL hs hr (fun y e => by cases e)) ⟨by simp, by simp⟩ rfl rfl⟩
  ·exact ⟨_, by omega, h1⟩
 ·unfold mkA
  split <;> rfl
theorem zgg (b : Int) : (za1 b).Pairwise (· < ·) ∧ (∀ x ∈ za1 b, 0 ≤ x ∧ x < 32) ∧ (za1 b).length ≤ 5 := by
 obtain ⟨h1, h2⟩ := zom b 5
 exact ⟨h1, fun x hx => by have := h2 x hx; omega, zfh b 5⟩
end Go.AI


namespace Go.AI
section
variable {S : Type} [DecidableEq S]
end
end Go.AI


namespace Go.AI
end Go.AI


namespace Go.AI
end Go.AI


namespace Go.AI
end Go.AI


namespace Go.AI
section
variable {S : Type} [DecidableEq S]
end
def mrk (a : Aut) (n : Nat) (i : Int) : Bool := zgX a (clo a.edges (lowP [] [] false) n [i])
end Go.AI


namespace Go.AI
end Go.AI


namespace Go.AI
end Go.AI


namespace Go.AI
def swp (s x : Int) : Int := if x = 0 then s else if x = s then 0 else x
theorem zhm : ∀ {es : List Edg} {s ev : Int}, 0 ≤ stp3 es s ev → (s, ev, stp3 es s ev) ∈ es
 | [], s, ev, h => by
  unfold stp3 at h
  exact absurd h (by decide)
 | x :: r, s, ev, h => by
  unfold stp3 at h ⊢
  by_cases c : x.1 = s ∧ x.2.1 = ev
  ·rw [if_pos c]
   obtain ⟨x1, x2, x3⟩ := x
   obtain ⟨rfl, rfl⟩ := c
   simp
  ·rw [if_neg c] at h ⊢
   exact List.mem_cons_of_mem _ (zhm h)
structure Sm (n : Nat) (s : Int) (E A : List Int) : Prop where
 rel : ∀ x, 0 ≤ x → x < (n : Int) → (x ∈ E ↔ swp s x ∈ A)
 rE : ∀ x ∈ E, 0 ≤ x ∧ x < (n : Int)
 rA : ∀ x ∈ A, 0 ≤ x ∧ x < (n : Int)
section
variable {a : Aut} {n : Nat} {s : Int} (h : gAut a n) (hn : n ≤ 5) (hs : 0 ≤ s ∧ s < (n : Int))
include h hs
include hn
omit h hn
end
end Go.AI


namespace Go.AI
open Go.Proofs
section
variable {E0 E : Env} {K : Kn} {ρ : Nat → Nat → Loc} {H : Heap} {O : List Heap} {w : World}
theorem zca {nm d n : Nat} {ob : Ob} (e : zaa (zbp nm H :: O) d n = some ob) : ∃ o0, zaa (H :: O) d n = some o0 ∧ ¬ (d = 0 ∧ n = nm) ∧ (∀ l, zas l ob ↔ zas l o0) ∧ (d = 0 → ob = o0.kill nm) ∧ (d ≠ 0 → ob = o0) := by
 cases d with
 | zero =>
  simp only [zaa, List.getElem?_cons_zero, zbl] at e
  split at e
  ·cases e
  ·rename_i hn
   cases hl : look H n with
   | none => simp [hl] at e
   | some o0 =>
    simp only [hl, Option.map_some, Option.some.injEq] at e
    subst e
    exact ⟨o0, by simpa [zaa] using hl, fun h => hn h.2, fun l => zgo _ _ _, fun _ => rfl, fun h => absurd rfl h⟩
 | succ d => exact ⟨ob, by simpa [zaa] using e, fun h => by omega, fun _ => Iff.rfl, fun h => by omega, fun _ => rfl⟩
theorem HInv.dropNm (nm : Nat) (h : HInv E K ρ (H :: O) w) : HInv E K ρ (zbp nm H :: O) w := by
 have e0 : (fun d n => ρ (0 + d) n) = ρ := by funext d n; rw [Nat.zero_add]
 refine ⟨h.holds, fun d n ob e => ?_, fun d n1 o1 d' n2 o2 e1 e2 b1 b2 hbe => ?_, h.size, fun b hb hno => h.old b hb fun d n ob e => hno d n ob (by simpa [zaa] using e), fun n ob e hb => ?_, h.outer, h.Kle, h.Knew, h.rest⟩
 ·obtain ⟨o0, a1, a2, a3, a4, a5⟩ := zca e
  have hs := h.own d n o0 a1
  cases d with
  | zero =>
   rw [a4 rfl]
   rw [e0, List.drop_zero] at hs
   rw [e0, List.drop_zero]
   exact hs.kill (zlF nm) (fun _ => rfl)
  | succ d =>
   rw [a5 (by omega)]
   exact hs
 ·obtain ⟨p1, a1, _, a3, _⟩ := zca e1
  obtain ⟨p2, c1, _, c3, _⟩ := zca e2
  exact h.inj _ _ _ _ _ _ a1 c1 ((a3 _).1 b1) ((c3 _).1 b2) hbe
 ·obtain ⟨p1, a1, _, a3, _⟩ := zca e
  exact h.loc _ _ a1 ((a3 _).1 hb)
def reE (E : Env) (K : Kn) (w : World) (q : Nat → Prop) (hq : ∀ b, q b → b < w.heap.size) (hs : E.w0.heap.size ≤ w.heap.size) : Env :=
 { K0 := K, ρ0 := E.ρ0, w0 := w, pr := fun b => E.pr b ∨ q b, lt := fun b hb => by rcases hb with h | h; exact Nat.lt_of_lt_of_le (E.lt b h) hs; exact hq b h }
theorem HInv.rebase {S : List Heap} (h : HInv E K ρ S w) {q : Nat → Prop} (hq : ∀ b, q b → b < w.heap.size) (hfree : ∀ nm ob b, q b → zaa S 0 nm = some ob → zas (ρ 0 nm) ob → (ρ 0 nm).block ≠ b) : HInv (reE E K w q hq h.size) K ρ S w :=
 ⟨h.holds, h.own, h.inj, Nat.le_refl _, fun _ _ _ => rfl, fun nm ob e hb hp => by
  rcases hp with hp | hp
  ·exact h.loc _ _ e hb hp
  ·exact hfree nm ob _ hp e hb rfl, h.outer, Kn.le_refl _, fun _ _ _ e => .inl e, ⟨rfl, rfl, rfl⟩⟩
theorem zpu (hh : HInv E K ρ (H :: O) w) (hb : Base E0 E O) {q : Nat → Prop} (hq : ∀ b, q b → b < w.heap.size) : Base E0 (reE E K w q hq hh.size) O := by
 refine ⟨Kn.le_trans hb.K hh.Kle, hb.ρ, fun b hp => .inl (hb.pr b hp), fun b o x e => ?_, Nat.le_trans hb.size hh.size, fun b hp ho => ?_, ?_⟩
 ·rcases hh.Knew b o x e with h1 | h1
  ·exact hb.new b o x h1
  ·exact .inr fun hp => h1 (hb.pr b hp)
 ·show w.heap[b]? = _
  rw [hh.old b (hb.pr b hp) (hh.outerNe hb ho)]
  exact hb.old b hp ho
 ·show w.tape = _ ∧ w.os = _ ∧ w.output = _
  exact ⟨hh.rest.1.trans hb.rest.1, hh.rest.2.1.trans hb.rest.2.1, hh.rest.2.2.trans hb.rest.2.2⟩
end
section
variable {c : Cx} {s : St} {k : List Item} {ops : Array Oper} {rest : List Nat} {o : Oper} {E0 : Env} {H : Heap} {O : List Heap}
end
section
variable {P : Program} {T : TT} {f : FuncId} {fn : Func} {code : Code}
end
section
variable {c : Cx} {s : St} {k : List Item} {ops : Array Oper} {rest : List Nat} {o : Oper} {g : Nat} {tab : Obj}
end
section
variable {c : Cx} {ops : Array Oper} {O : List Heap} {n : Nat} {F : SH → List Pl → Prop}
def SegF (c : Cx) (ops : Array Oper) (O : List Heap) (n : Nat) (F : SH → List Pl → Prop) (N : Nat) (r : List Oper) : SH → List Pl → Prop := fun y ac => ac.length = N ∧ GD c ops O n F r y ac
theorem zrI {r : List Oper} {N : Nat} : ∀ {l : List Oper} {x : SH} {acc : List Pl}, acc.length + l.length = N → GD c ops O n (SegF c ops O n F N r) l x acc → GD c ops O n F (l ++ r) x acc
 | [], x, acc, hN, ⟨qs, h1, h2⟩ => by
  cases qs with
  | nil => simpa [ziT] using h2.2
  | cons q qs => exact absurd h1 (by simp [zje])
 | o :: l, x, acc, hN, ⟨qs, h1, h2⟩ => by
  cases qs with
  | nil =>
   have := h2.1
   simp only [List.append_nil, List.length_cons] at this hN
   omega
  | cons q qs =>
   obtain ⟨h3, h4⟩ := h1
   have hN' : (acc ++ [q]).length + l.length = N := by
    have e1 : (o :: l).length = l.length + 1 := rfl
    have e2 : (acc ++ [q]).length = acc.length + 1 := by rw [List.length_append]; rfl
    omega
   exact zdT h3 (zrI hN' ⟨qs, h4, by rw [List.append_assoc]; exact h2⟩)
end
section
variable {c : Cx}
theorem zm1 (hT : TOk c.P c.T) (m : Nat) (hm : c.P.follows .mixedOrders = true) {id : Nat} {ops : Array Oper} {s : St} {k : List Item} {H : Heap} {O : List Heap} (hS : s.S = H :: O)
  (hml : m ≤ ops.size) (h : GE c ops O s.n (SegF c ops O s.n (FD c ops O s.n (s.σ, H) k) m (ops.toList.drop m)) (runS c.T ops O s.n 0 (ops.toList.take m) (s.σ, H) [])) : GM c (.drawn id ops s k) := by
 refine ⟨?_⟩
 have h0 := zrI (by simp; omega) (za6 hT _ _ _ _ h.h)
 rw [List.take_append_drop] at h0
 obtain ⟨qs, h1, h2⟩ := h0
 rw [List.nil_append] at h2
 have hs : s = St.of O s.n (s.σ, H) := by
  cases s
  simp only at hS
  subst hS
  rfl
 show Rch c (.code (.region id ops true) :: k) s
 rw [hs]
 exact zla hm h2.1 h1 h2.2
end
end Go.AI


namespace Go.AI
open Go.Proofs
set_option maxRecDepth 20000
end Go.AI


namespace Go.AI
open Go.Proofs
set_option maxRecDepth 20000
def zs4 (a : Aut) (on : List Int) (n : Nat) (s : List Int) (ev : Int) : List Int × Bool × Int := (nxt a.edges (lowP on [] false) n s ev, decide ((nxt a.edges (lowP on [] false) n s ev).length ≠ 0), 0)
def prjR (a : Aut) (on : List Int) (n : Nat) : Except Int (Unf (List Int)) := unfR eqB false (zs4 a on n) (zgX a) (zmW a on) (clo a.edges (lowP on [] false) n [0])
theorem zmp {σ : Type} {eq : σ → σ → Bool} {lim : Bool} {step : σ → Int → σ × Bool × Int} {mkd : σ → Bool} {alpha : List Int} {U : Unf σ} {i : Nat} (h : U.sts.length ≤ i) : ∀ k, zbU eq lim step mkd alpha k i U = .ok U
 | 0 => rfl
 | k + 1 => by simp only [zbU, List.getElem?_eq_none h]
end Go.AI


namespace Go.AI
structure PrjOk (b : Aut) (on : List Int) (n : Nat) (V : Unf (List Int)) : Prop where
 fst : V.sts[0]? = some (clo b.edges (lowP on [] false) n [0])
 nd : V.sts.Nodup
 el : ∀ s ∈ V.sts, s ∈ subs n
 ne : ∀ s ∈ V.sts, s ≠ []
 mrk : ∀ (i : Nat) E, V.sts[i]? = some E → decide ((i : Int) ∈ V.mkl) = zgX b E
 st : ∀ (i : Nat) E, V.sts[i]? = some E → ∀ ev ∈ zmW b on, (nxt b.edges (lowP on [] false) n E ev = [] ∧ stp3 V.eds i ev = -1) ∨
  ∃ j : Nat, stp3 V.eds i ev = (j : Int) ∧ V.sts[j]? = some (nxt b.edges (lowP on [] false) n E ev) ∧ nxt b.edges (lowP on [] false) n E ev ≠ []
 len : V.sts.length ≤ 32 ∧ V.mkl.length ≤ 32 ∧ V.eds.length ≤ 32 * 32
abbrev NP := Nat × Nat
section
variable (b c : Aut) (lp : Int → Bool) (n : Nat) (kp : List Int) (V W : Unf (List Int))
def atW (t : List Int) (z : NP) : Prop := V.sts[z.1]? = some (nxtL b.edges lp n (clo b.edges lp n [0]) t) ∧ W.sts[z.2]? = some (nxtL c.edges lp n (clo c.edges lp n [0]) t)
def ztP (l : List NP) (z : NP) (ev : Int) : Prop := ∀ E F, V.sts[z.1]? = some E → W.sts[z.2]? = some F → (nxt b.edges lp n E ev = [] ↔ nxt c.edges lp n F ev = []) ∧
 (nxt b.edges lp n E ev ≠ [] → ∃ y ∈ l, V.sts[y.1]? = some (nxt b.edges lp n E ev) ∧ W.sts[y.2]? = some (nxt c.edges lp n F ev))
def ztO (z : NP) : Prop := ∀ E F, V.sts[z.1]? = some E → W.sts[z.2]? = some F → zgX b E = zgX c F
structure prOk (i : Nat) (l : List NP) : Prop where
 nd : l.Nodup
 zero : (0, 0) ∈ l
 at_ : ∀ z ∈ l, ∃ t, (∀ ev ∈ t, ev ∈ kp) ∧ atW b c lp n V W t z
 mrk : ∀ (k : Nat) z, k < i → l[k]? = some z → ztO b c V W z
 ev : ∀ (k : Nat) z, k < i → l[k]? = some z → ∀ ev ∈ kp, ztP b c lp n V W l z ev
variable {b c lp n kp V W}
end
section
variable {b c : Aut} {on : List Int} {n : Nat} {kp : List Int} {V W : Unf (List Int)}
end
end Go.AI


namespace Go.AI
set_option maxRecDepth 20000
def Unf.map {σ τ : Type} (f : σ → τ) (U : Unf σ) : Unf τ := ⟨U.sts.map f, U.mkl, U.eds⟩
def zhX {σ τ : Type} (f : σ → τ) : Except Int (Unf σ) → Except Int (Unf τ)
 | .error e => .error e
 | .ok U => .ok (U.map f)
section
variable {σ τ : Type} {eq : σ → σ → Bool} {eq' : τ → τ → Bool} {lim : Bool} {step : σ → Int → σ × Bool × Int} {step' : τ → Int → τ × Bool × Int} {mkd : σ → Bool} {mkd' : τ → Bool} {P : σ → Prop} {f : σ → τ} {alpha : List Int}
structure Sim (eq : σ → σ → Bool) (eq' : τ → τ → Bool) (step : σ → Int → σ × Bool × Int) (step' : τ → Int → τ × Bool × Int) (mkd : σ → Bool) (mkd' : τ → Bool) (P : σ → Prop) (f : σ → τ) (alpha : List Int) : Prop where
 st : ∀ s ev, P s → ev ∈ alpha → (step' (f s) ev).2 = (step s ev).2 ∧ ((step s ev).2.1 = true → (step' (f s) ev).1 = f (step s ev).1 ∧ P (step s ev).1)
 eq : ∀ a b, P a → P b → eq' (f a) (f b) = eq a b
 mark : ∀ s, P s → mkd' (f s) = mkd s
theorem zmn (h : Sim eq eq' step step' mkd mkd' P f alpha) {i : Nat} {s : σ} {ev : Int} {U : Unf σ} (hs : P s) (he : ev ∈ alpha) (hU : ∀ t ∈ U.sts, P t) :
  zcu eq' lim step' i (f s) ev (U.map f) = zhX f (zcu eq lim step i s ev U) ∧ ∀ V, zcu eq lim step i s ev U = .ok V → ∀ t ∈ V.sts, P t := by
 obtain ⟨h1, h2⟩ := h.st s ev hs he
 unfold zcu
 rw [h1]
 by_cases c1 : (step s ev).2.2 ≠ 0
 ·rw [if_pos c1, if_pos c1]
  exact ⟨rfl, fun V hV => by cases hV⟩
 rw [if_neg c1, if_neg c1]
 by_cases c2 : (step s ev).2.1 = false
 ·rw [if_pos c2, if_pos c2]
  exact ⟨rfl, fun V hV => by cases hV; exact hU⟩
 rw [if_neg c2, if_neg c2]
 obtain ⟨h3, h4⟩ := h2 (by simpa using c2)
 have e1 : (U.map f).sts.findIdx (eq' (step' (f s) ev).1) = U.sts.findIdx (eq (step s ev).1) := by
  show (U.sts.map f).findIdx _ = _
  rw [List.findIdx_map, h3]
  exact zcL fun x hx => h.eq _ _ h4 (hU x hx)
 have e2 : (U.map f).sts.length = U.sts.length := by show (U.sts.map f).length = _; rw [List.length_map]
 rw [e1, e2]
 by_cases c3 : U.sts.findIdx (eq (step s ev).1) < U.sts.length
 ·rw [if_pos c3, if_pos c3]
  exact ⟨rfl, fun V hV => by cases hV; exact hU⟩
 rw [if_neg c3, if_neg c3]
 by_cases c4 : lim = true ∧ U.sts.length = 4096
 ·rw [if_pos c4, if_pos c4]
  exact ⟨rfl, fun V hV => by cases hV⟩
 rw [if_neg c4, if_neg c4]
 refine ⟨?_, fun V hV t ht => ?_⟩
 ·simp only [zhX, Unf.map, List.map_append, List.map_cons, List.map_nil, h3]
 ·cases hV
  rcases List.mem_append.1 ht with ht | ht
  ·exact hU t ht
  ·rw [List.mem_singleton] at ht
   subst ht
   exact h4
theorem zfs (h : Sim eq eq' step step' mkd mkd' P f alpha) {i : Nat} {s : σ} (hs : P s) : ∀ (l : List Int) {U : Unf σ}, (∀ ev ∈ l, ev ∈ alpha) → (∀ t ∈ U.sts, P t) →
  zaz eq' lim step' i (f s) l (U.map f) = zhX f (zaz eq lim step i s l U) ∧ ∀ V, zaz eq lim step i s l U = .ok V → ∀ t ∈ V.sts, P t
 | [], U, _, hU => ⟨rfl, fun V hV => by cases hV; exact hU⟩
 | ev :: l, U, hl, hU => by
  obtain ⟨h1, h2⟩ := zmn (lim := lim) (i := i) h hs (hl ev (by simp)) hU
  simp only [zaz]
  rw [h1]
  cases hV : zcu eq lim step i s ev U with
  | error e => exact ⟨rfl, fun V h => by cases h⟩
  | ok V =>
   simp only [zhX]
   exact zfs h hs l (fun x hx => hl x (by simp [hx])) (h2 V hV)
theorem zib (h : Sim eq eq' step step' mkd mkd' P f alpha) : ∀ (n i : Nat) {U : Unf σ}, (∀ t ∈ U.sts, P t) →
  zbU eq' lim step' mkd' alpha n i (U.map f) = zhX f (zbU eq lim step mkd alpha n i U) ∧ ∀ V, zbU eq lim step mkd alpha n i U = .ok V → ∀ t ∈ V.sts, P t
 | 0, i, U, hU => ⟨rfl, fun V hV => by cases hV; exact hU⟩
 | n + 1, i, U, hU => by
  simp only [zbU]
  have e0 : (U.map f).sts[i]? = (U.sts[i]?).map f := by show (U.sts.map f)[i]? = _; rw [List.getElem?_map]
  rw [e0]
  cases hs : U.sts[i]? with
  | none => exact ⟨rfl, fun V hV => by cases hV; exact hU⟩
  | some s =>
   simp only [Option.map_some]
   have hPs : P s := hU s (List.mem_of_getElem? hs)
   have e1 : zbD mkd' i (f s) (U.map f) = (zbD mkd i s U).map f := by
    unfold zbD
    rw [h.mark s hPs]
    split <;> rfl
   obtain ⟨m1, m2⟩ := zcW mkd i s U
   have hM : ∀ t ∈ (zbD mkd i s U).sts, P t := by rw [m1]; exact hU
   rw [e1]
   obtain ⟨h1, h2⟩ := zfs (lim := lim) (i := i) h hPs alpha (fun _ hx => hx) hM
   rw [h1]
   cases hV : zaz eq lim step i s alpha (zbD mkd i s U) with
   | error e => exact ⟨rfl, fun V h => by cases h⟩
   | ok V =>
    simp only [zhX]
    exact zib h n (i + 1) (h2 V hV)
theorem zp9 (h : Sim eq eq' step step' mkd mkd' P f alpha) {first : σ} (h0 : P first) : unfR eq' lim step' mkd' alpha (f first) = zhX f (unfR eq lim step mkd alpha first) :=
 (zib (lim := lim) h 4097 0 (U := unf0 first) (fun t ht => by rw [unf0, List.mem_singleton] at ht; subst ht; exact h0)).1
end
end Go.AI


namespace Go.AI
abbrev pk (x ev : Int) : Value := .agg ⟨[.int .i64 x, .int .i64 ev]⟩
def zfx (es : List Edg) : List (Value × Int) := es.foldl (fun m e => mset m (pk e.1 e.2.1) e.2.2) []
theorem zsj {a b : Int} {k : Value} (h : keyB (pk a b) k = true) (c d : Int) : keyB (pk c d) k = (c == a && d == b) := by
 unfold keyB at h
 split at h
 ·rename_i heq; cases heq
 ·rename_i heq; cases heq
 ·rename_i heq
  simp only [Value.agg.injEq, Array.mk.injEq, List.cons.injEq, Value.int.injEq, and_true] at heq
  obtain ⟨⟨_, rfl⟩, _, rfl⟩ := heq
  simp only [Bool.and_eq_true, beq_iff_eq] at h
  obtain ⟨rfl, rfl⟩ := h
  rfl
 ·cases h
theorem zgV {α : Type} (a b : Int) (v : α) (c d : Int) : ∀ m : List (Value × α), zbg (mset m (pk a b) v) (pk c d) = if c = a ∧ d = b then some v else zbg m (pk c d)
 | [] => by
  simp only [mset, zbg]
  have : keyB (pk c d) (pk a b) = (c == a && d == b) := rfl
  rw [this]
  by_cases h : c = a ∧ d = b
  ·rw [if_pos h, h.1, h.2]; simp
  ·rw [if_neg h]
   have : (c == a && d == b) = false := by
    rw [Bool.eq_false_iff]
    intro e
    simp only [Bool.and_eq_true, beq_iff_eq] at e
    exact h e
   rw [this]; rfl
 | (k, y) :: r => by
  simp only [mset]
  cases hk : keyB (pk a b) k with
  | true =>
   simp only [cond_true, zbg]
   rw [zsj hk, show keyB (pk c d) (pk a b) = (c == a && d == b) from rfl]
   by_cases h : c = a ∧ d = b
   ·rw [if_pos h, h.1, h.2]; simp
   ·rw [if_neg h]
    have : (c == a && d == b) = false := by
     rw [Bool.eq_false_iff]
     intro e
     simp only [Bool.and_eq_true, beq_iff_eq] at e
     exact h e
    rw [this]; rfl
  | false =>
   simp only [cond_false, zbg]
   rw [zgV a b v c d r]
   by_cases h : c = a ∧ d = b
   ·rw [if_pos h, h.1, h.2, hk]; simp
   ·rw [if_neg h, if_neg h]
theorem zid (x ev : Int) : ∀ (es : List Edg) (m : List (Value × Int)), es.Pairwise ltE → (∀ e ∈ es, 0 ≤ e.2.2) →
  zbg (es.foldl (fun m e => mset m (pk e.1 e.2.1) e.2.2) m) (pk x ev) = if 0 ≤ stp3 es x ev then some (stp3 es x ev) else zbg m (pk x ev)
 | [], m, _, _ => by
  have : stp3 [] x ev = -1 := by unfold stp3; rfl
  rw [this]; rfl
 | e :: r, m, hp, ht => by
  rw [List.pairwise_cons] at hp
  rw [List.foldl_cons, zid x ev r _ hp.2 fun e he => ht e (by simp [he]), zgV]
  have hs : stp3 (e :: r) x ev = if e.1 = x ∧ e.2.1 = ev then e.2.2 else stp3 r x ev := by rw [stp3]
  by_cases c : e.1 = x ∧ e.2.1 = ev
  ·have h1 : ¬ 0 ≤ stp3 r x ev := by
    intro h
    have := hp.1 _ (zhm h)
    unfold ltE at this
    simp only at this
    omega
   rw [hs, if_pos c, if_neg h1, if_pos ⟨c.1.symm, c.2.symm⟩, if_pos (ht e (by simp))]
  ·have h1 : (if x = e.1 ∧ ev = e.2.1 then some e.2.2 else zbg m (pk x ev)) = zbg m (pk x ev) := if_neg fun h => c ⟨h.1.symm, h.2.symm⟩
   rw [hs, if_neg c, h1]
theorem zqd {es : List Edg} (hp : es.Pairwise ltE) (ht : ∀ e ∈ es, 0 ≤ e.2.2) (x ev : Int) : mhas (zfx es) (pk x ev) = decide (0 ≤ stp3 es x ev) ∧ (0 ≤ stp3 es x ev → zcS (zfx es) (pk x ev) = stp3 es x ev) := by
 have h := zid x ev es [] hp ht
 unfold mhas zcS zfx
 rw [h]
 by_cases c : 0 ≤ stp3 es x ev
 ·rw [if_pos c, decide_eq_true c]; exact ⟨rfl, fun _ => rfl⟩
 ·rw [if_neg c, decide_eq_false c]; exact ⟨rfl, fun h => absurd h c⟩
theorem zoD (a b : Int) (v : Int) : ∀ {m : List (Value × Int)}, (∀ p ∈ m, KK.ok (.pair .i64) p.1 = true) → ∀ p ∈ mset m (pk a b) v, KK.ok (.pair .i64) p.1 = true
 | [], _, p, hp => by
  simp only [mset, List.mem_singleton] at hp
  subst hp; rfl
 | (k, y) :: r, h, p, hp => by
  simp only [mset] at hp
  cases hk : keyB (pk a b) k with
  | true =>
   rw [hk, cond_true] at hp
   rcases List.mem_cons.1 hp with rfl | hp
   ·rfl
   ·exact h p (by simp [hp])
  | false =>
   rw [hk, cond_false] at hp
   rcases List.mem_cons.1 hp with rfl | hp
   ·exact h _ (by simp)
   ·exact zoD a b v (fun q hq => h q (by simp [hq])) p hp
theorem zqe (es : List Edg) : ∀ p ∈ zfx es, KK.ok (.pair .i64) p.1 = true := by
 have : ∀ (es : List Edg) (m : List (Value × Int)), (∀ p ∈ m, KK.ok (.pair .i64) p.1 = true) → ∀ p ∈ es.foldl (fun m e => mset m (pk e.1 e.2.1) e.2.2) m, KK.ok (.pair .i64) p.1 = true := by
  intro es
  induction es with
  | nil => intro m h; exact h
  | cons e r ih => intro m h; exact ih _ (zoD _ _ _ h)
 exact this es [] (by simp)
section
variable {σ : Type} [DecidableEq σ] {mkd : σ → Bool} {al : List Int} {P : σ → Prop} {step : σ → Int → σ × Bool × Int} {V : Unf σ}
def unfA {σ : Type} (al : List Int) (V : Unf σ) : Aut := ⟨al, V.sts.length, V.mkl, V.eds⟩
theorem zqa (hU : UAt mkd al P step V.sts.length V) {N : Nat} (hN : al.length ≤ N) : V.mkl.length ≤ V.sts.length ∧ V.eds.length ≤ N * V.sts.length := by
 constructor
 ·rw [hU.mkl, List.length_map]
  exact Nat.le_trans (List.length_filter_le _ _) (by rw [List.length_range]; omega)
 ·rw [hU.eds]
  refine Nat.le_trans (zgc (N := N) fun k _ => ?_) (by rw [List.length_range]; exact Nat.le_refl _)
  split
  ·simp
  ·exact Nat.le_trans (List.length_filterMap_le _ _) hN
end
def tupS : List Aut → List Int → Int → Option (List Int)
 | a :: l, x :: t, ev => if ev ∈ a.alpha then (if 0 ≤ stp3 a.edges x ev then (tupS l t ev).map (stp3 a.edges x ev :: ·) else none) else (tupS l t ev).map (x :: ·)
 | _, _, _ => some []
def zie (l : List Aut) (t : List Int) (ev : Int) : List Int × Bool × Int := ((tupS l t ev).getD [], (tupS l t ev).isSome, 0)
def tMk : List Aut → List Int → Bool
 | a :: l, x :: t => decide (x ∈ a.marked) && tMk l t
 | _, _ => true
def evL (l : List Aut) : List Int := l.foldl (fun o a => mrgR orK o a.alpha) []
def tup0 (l : List Aut) : List Int := l.map fun _ => 0
def tOk : List Aut → List Int → Prop
 | [], [] => True
 | a :: l, x :: t => (0 ≤ x ∧ x < a.states) ∧ tOk l t
 | _, _ => False
def zdv : List Aut → List (List Int)
 | [] => [[]]
 | a :: l => (List.range a.states.toNat).flatMap fun (x : Nat) => (zdv l).map fun t => (x : Int) :: t
def zqD (l : List Aut) : Except Int (Unf (List Int)) := unfR eqB true (zie l) (tMk l) (evL l) (tup0 l)
theorem zcX : ∀ {l : List Aut} {t : List Int}, tOk l t → t.length = l.length
 | [], [], _ => rfl
 | a :: l, x :: t, h => by simp [zcX h.2]
 | [], _ :: _, h => h.elim
 | _ :: _, [], h => h.elim
theorem zgJ : ∀ {l : List Aut} {t : List Int}, tOk l t → (∀ a ∈ l, a.states ≤ 64) → ∀ x ∈ t, 0 ≤ x ∧ x < 64
 | [], [], _, _, x, hx => by cases hx
 | a :: l, y :: t, h, hl, x, hx => by
  rcases List.mem_cons.1 hx with rfl | hx
  ·have := hl a (by simp); have := h.1; omega
  ·exact zgJ h.2 (fun b hb => hl b (by simp [hb])) x hx
 | [], _ :: _, h, _, _, _ => h.elim
 | _ :: _, [], h, _, _, _ => h.elim
theorem zc4 : ∀ {l : List Aut} {t : List Int}, tOk l t → t ∈ zdv l
 | [], [], _ => by simp [zdv]
 | a :: l, x :: t, h => by
  simp only [zdv, List.mem_flatMap, List.mem_map]
  refine ⟨x.toNat, List.mem_range.2 (by have := h.1; omega), t, zc4 h.2, ?_⟩
  have := h.1
  rw [show ((x.toNat : Nat) : Int) = x by omega]
 | [], _ :: _, h => h.elim
 | _ :: _, [], h => h.elim
theorem zhk : ∀ {l : List Aut}, (∀ a ∈ l, 0 < a.states) → tOk l (tup0 l)
 | [], _ => trivial
 | a :: l, h => ⟨⟨Int.le_refl _, h a (by simp)⟩, zhk fun b hb => h b (by simp [hb])⟩
theorem zfw : ∀ {l : List Aut} {t : List Int} {ev : Int} {n : List Int}, (∀ a ∈ l, chkA a = 0) → tOk l t → tupS l t ev = some n → tOk l n
 | [], [], ev, n, _, _, e => by simp only [tupS, Option.some.injEq] at e; subst e; trivial
 | a :: l, x :: t, ev, n, hc, h, e => by
  simp only [tupS] at e
  by_cases c : ev ∈ a.alpha
  ·rw [if_pos c] at e
   by_cases c2 : 0 ≤ stp3 a.edges x ev
   ·rw [if_pos c2] at e
    obtain ⟨m, hm, rfl⟩ := Option.map_eq_some_iff.1 e
    exact ⟨(zpk (hc a (by simp))).2.1 _ (zhm c2), zfw (fun b hb => hc b (by simp [hb])) h.2 hm⟩
   ·rw [if_neg c2] at e; cases e
  ·rw [if_neg c] at e
   obtain ⟨m, hm, rfl⟩ := Option.map_eq_some_iff.1 e
   exact ⟨h.1, zfw (fun b hb => hc b (by simp [hb])) h.2 hm⟩
 | [], _ :: _, _, _, _, h, _ => h.elim
 | _ :: _, [], _, _, _, h, _ => h.elim
theorem zlb {l : List Aut} (hc : ∀ a ∈ l, chkA a = 0) (hV : (zdv l).length < 4096) : Fin1 (zie l) eqB true (tOk l) :=
 ⟨fun s ev hs hp => by
  show tOk l ((tupS l s ev).getD [])
  have hp : (tupS l s ev).isSome = true := hp
  cases e : tupS l s ev with
  | none => rw [e] at hp; cases hp
  | some n => exact zfw hc hs e, fun _ _ _ _ => rfl, fun _ m h1 h2 => Nat.lt_of_le_of_lt (zc3 h2 fun s hs => zc4 (h1 s hs)) hV⟩
theorem zon {l : List Aut} (hc : ∀ a ∈ l, chkA a = 0) (h0 : ∀ a ∈ l, 0 < a.states) (hV : (zdv l).length < 4096) :
  ∃ V, zqD l = .ok V ∧ UAt (tMk l) (evL l) (tOk l) (zie l) V.sts.length V := by
 rcases znQ (tMk l) (zlb hc hV) (alpha := evL l) (first := tup0 l) (zhk h0) (B := (zdv l).length) (fun m h1 h2 => zc3 h2 fun s hs => zc4 (h1 s hs)) (by omega) with ⟨e, _, h1, s, _, ev, _, h2⟩ | h
 ·exact absurd h2.symm h1
 ·exact h
theorem zpd : ∀ (l : List Aut) (o : List Int), o.Pairwise (· < ·) → (∀ x ∈ o, 0 ≤ x ∧ x < 32) → (∀ a ∈ l, chkA a = 0) →
  (l.foldl (fun o a => mrgR orK o a.alpha) o).Pairwise (· < ·) ∧ (∀ x ∈ l.foldl (fun o a => mrgR orK o a.alpha) o, 0 ≤ x ∧ x < 32) ∧ ∀ x, x ∈ l.foldl (fun o a => mrgR orK o a.alpha) o ↔ x ∈ o ∨ ∃ a ∈ l, x ∈ a.alpha
 | [], o, h1, h2, _ => ⟨h1, h2, by simp⟩
 | a :: l, o, h1, h2, hc => by
  have ha := zaD (zba (hc a (by simp))).1
  have hm := ztc h1 ha.1
  obtain ⟨e1, e2, e3⟩ := zpd l (mrgR orK o a.alpha) (zci orK _ o a.alpha (Nat.le_refl _) h1 ha.1).2.1 (fun x hx => by
   rcases (hm x).1 hx with hx | hx
   ·exact h2 x hx
   ·exact ha.2.1 x hx) (fun b hb => hc b (by simp [hb]))
  refine ⟨e1, e2, fun x => ?_⟩
  rw [List.foldl_cons, e3, hm]
  simp only [List.mem_cons, exists_eq_or_imp, or_assoc]
theorem zjZ {l : List Aut} (hc : ∀ a ∈ l, chkA a = 0) : zal 32 (evL l) none = 0 :=
 have h := zpd l [] .nil (by simp) hc
 zbL h.1 h.2.1 (by simp)
theorem zse {l : List Aut} (hc : ∀ a ∈ l, chkA a = 0) (x : Int) : x ∈ evL l ↔ ∃ a ∈ l, x ∈ a.alpha := by
 have h := (zpd l [] .nil (by simp) hc).2.2 x
 simpa [evL] using h
end Go.AI


namespace Go.AI
open Go.Proofs
set_option maxRecDepth 20000
abbrev autM (a : Aut) : List I := [zb2 a.alpha, vi a.states, zb2 a.marked, .sl 3 a.edges.length (a.edges.map edgI)]
abbrev auts (l : List Aut) : D := .i (.sl 4 l.length (l.map autM))
def zeo : List Aut → Int
 | [] => 0
 | a :: l => if chkA a ≠ 0 then chkA a else zeo l
theorem zsC (O : List Heap) (l : List Aut) (hl : l.length ≤ 12) (hs : ∀ a ∈ l, smallA a) : zan Tryz.prog 78 [auts l] O (ii (zeo l)) [] O := by
 obtain ⟨R, hR⟩ : ∃ R, R = zeo (l.drop 0) := ⟨_, rfl⟩
 have e0 : zeo l = R := hR.symm
 rw [e0]
 refine zaC [] Tk Tryz.func78 rfl Tryz.call78 Tryz.ntmps78 (Nat.le_of_ble_eq_true rfl) fun E => ?_
 refine zaf Tk Tryz.func78 ?_
 refine zae Tk Tryz.func78 rfl (fun h => absurd h (by simp; omega)) (fun _ => ?_)
 refine zad ?_
 refine zag (fun i : Nat => [(9, auts l), (10, ii l.length), (11, ii i)]) (fun _ => []) (fun _ => O) 21
  (fun i => i ≤ l.length ∧ R = zeo (l.drop i)) (fun i => l.length - i) 0 ⟨Nat.zero_le _, hR⟩ ⟨rfl, rfl, rfl, trivial⟩ rfl trivial rfl rfl ?_
 clear hR e0
 rintro i ⟨hi, hno⟩ ih
 refine zaf Tk Tryz.func78 ?_
 refine zae Tk Tryz.func78 rfl (fun g1 => ?_) (fun g1 => ?_)
 ·have h2 : i < l.length := by simpa using g1
  have gl : (l.map autM)[(i : Int).toNat]? = some (autM l[i]) := zah h2
  have dl : l.drop i = l[i] :: l.drop (i + 1) := List.drop_eq_getElem_cons h2
  have ha := hs _ (List.getElem_mem h2)
  rw [dl] at hno
  simp only [zeo] at hno
  clear dl
  generalize l[i] = a at *
  have h1 := fun O => zlE O a (by have := ha.ed; simp only [zam]; omega) (by have := ha.al; simp only [zam]; omega) (by have := ha.mkd; simp only [zam]; omega)
  obtain ⟨al, st, mk, es⟩ := a
  generalize chkA ⟨al, st, mk, es⟩ = c0 at *
  refine zak Tk Tryz.func78 (by exact ⟨by omega, by show (i : Int) < (l.length : Int); omega⟩) ?_
  refine zar Tk Tryz.func78 (gl) ?_
  refine zaj Tk Tryz.func78 (h1 _) rfl rfl rfl rfl rfl ?_
  refine zae Tk Tryz.func78 rfl (fun c1 => ?_) (fun c1 => ?_)
  ·have c1 : c0 ≠ 0 := bneT c1
   rw [if_pos c1] at hno
   subst hno
   refine zai Tk (r := ii R) rfl rfl rfl trivial rfl rfl ?_
   rfl
  ·have c1 : c0 = 0 := bneF c1
   rw [if_neg (fun h => h c1)] at hno
   refine zad ?_
   exact ih (i + 1) _ _ ⟨h2, hno⟩ (by omega) ⟨rfl, rfl, congrArg ii (zaB (n := 4096) (by omega) (by decide)), trivial⟩ rfl trivial rfl rfl
 ·have h2 : l.length ≤ i := by simpa using g1
  rw [List.drop_eq_nil_of_le h2] at hno
  simp only [zeo] at hno
  subst hno
  refine zai Tk (r := ii 0) rfl rfl rfl trivial rfl rfl ?_
  rfl
theorem zeF {l : List Aut} {i : Nat} (h : i < l.length) : (l.map autM)[(i : Int).toNat]? = some (autM l[i]) := zah h
set_option maxHeartbeats 1000000 in
theorem zpc (O : List Heap) (l : List Aut) (hl : l.length ≤ 12) (hc : ∀ a ∈ l, chkA a = 0) : zan Tryz.prog 132 [auts l] O (ints (evL l)) [] O := by
 obtain ⟨R, hR⟩ : ∃ R, R = (l.drop 0).foldl (fun o a => mrgR orK o a.alpha) [] := ⟨_, rfl⟩
 have e0 : evL l = R := hR.symm
 rw [e0]
 refine zaC [] Tk Tryz.func132 rfl Tryz.call132 Tryz.ntmps132 (Nat.le_of_ble_eq_true rfl) fun E => ?_
 refine zaf Tk Tryz.func132 ?_
 refine zad ?_
 refine zaw (zcT 3 99 3 1 rfl rfl rfl) ?_
 refine zaw (zap 99 rfl rfl) ?_
 refine zag (fun x : Nat × List Int => [(3, ints x.2), (6, auts l), (7, ii l.length), (8, ii x.1)]) (fun _ => []) (fun _ => O) 18
  (fun x => x.1 ≤ l.length ∧ x.2.Pairwise (· < ·) ∧ x.2.length ≤ 32 * x.1 ∧ R = (l.drop x.1).foldl (fun o a => mrgR orK o a.alpha) x.2) (fun x => l.length - x.1) (0, []) ⟨Nat.zero_le _, .nil, Nat.le_refl _, hR⟩ ⟨rfl, rfl, rfl, rfl, trivial⟩ rfl trivial rfl rfl ?_
 clear hR e0
 rintro ⟨i, o⟩ ⟨hi, hp, hol, hno⟩ ih
 simp only at hi hp hol hno
 refine zaf Tk Tryz.func132 ?_
 refine zae Tk Tryz.func132 rfl (fun g1 => ?_) (fun g1 => ?_)
 ·have h2 : i < l.length := by simpa using g1
  have gl := zeF h2
  have dl : l.drop i = l[i] :: l.drop (i + 1) := List.drop_eq_getElem_cons h2
  have ha := hc _ (List.getElem_mem h2)
  rw [dl, List.foldl_cons] at hno
  clear dl
  generalize l[i] = a at *
  obtain ⟨c1, _⟩ := zba ha
  have hal := zbt (by decide) c1
  have hms := zci orK _ o a.alpha (Nat.le_refl _) hp (zaD c1).1
  have h1 := fun O => zp8 O o a.alpha (by omega) (by omega)
  generalize mrgR orK o a.alpha = o2 at *
  obtain ⟨al, st, mk, es⟩ := a
  refine zak Tk Tryz.func132 (by exact ⟨by omega, by show (i : Int) < (l.length : Int); omega⟩) ?_
  refine zar Tk Tryz.func132 (gl) ?_
  refine zaj Tk Tryz.func132 (h1 _) rfl rfl rfl rfl rfl ?_
  refine zad ?_
  exact ih (i + 1, o2) _ _ ⟨h2, hms.2.1, by have := hms.2.2; simp only at this ⊢; omega, hno⟩ (by simp only; omega) ⟨rfl, rfl, rfl, congrArg ii (zaB (n := 4096) (by omega) (by decide)), trivial⟩ rfl trivial rfl rfl
 ·have h2 : l.length ≤ i := by simpa using g1
  rw [List.drop_eq_nil_of_le h2, List.foldl_nil] at hno
  subst hno
  refine zai Tk (r := ints R) rfl rfl rfl trivial rfl rfl ?_
  rfl
abbrev zmT (l : List Aut) (ev : List Int) (M : List (List I)) : D := .agg [auts l, ints ev, .i (.sl 1 M.length M)]
theorem zsJ (O : List Heap) (l : List Aut) (ev : List Int) (M : List (List I)) (hl : l.length ≤ 12) (h0 : ¬ ∀ a ∈ l, a.states ≠ 0) : zan Tryz.prog 80 [zmT l ev M] O (.tup [.i (.v (.slice none 0 0)), bb false]) [] O := by
 have h0 : ¬ ∀ a ∈ l.drop 0, a.states ≠ 0 := h0
 refine zaC [] Tk Tryz.func80 rfl Tryz.call80 Tryz.ntmps80 (Nat.le_of_ble_eq_true rfl) fun E => ?_
 refine zaf Tk Tryz.func80 ?_
 refine zad ?_
 refine zag (fun i : Nat => [(7, auts l), (8, ii l.length), (9, ii i)]) (fun _ => []) (fun _ => O) 21
  (fun i => i ≤ l.length ∧ ¬ ∀ a ∈ l.drop i, a.states ≠ 0) (fun i => l.length - i) 0 ⟨Nat.zero_le _, h0⟩ ⟨rfl, rfl, rfl, trivial⟩ rfl trivial rfl rfl ?_
 clear h0
 rintro i ⟨hi, hno⟩ ih
 refine zaf Tk Tryz.func80 ?_
 refine zae Tk Tryz.func80 rfl (fun g1 => ?_) (fun g1 => ?_)
 ·have h2 : i < l.length := by simpa using g1
  have gl := zeF h2
  have dl : l.drop i = l[i] :: l.drop (i + 1) := List.drop_eq_getElem_cons h2
  rw [dl] at hno
  clear dl
  generalize l[i] = a at *
  obtain ⟨al, st, mk, es⟩ := a
  refine zak Tk Tryz.func80 (by exact ⟨by omega, by show (i : Int) < (l.length : Int); omega⟩) ?_
  refine zar Tk Tryz.func80 (gl) ?_
  refine zae Tk Tryz.func80 rfl (fun c1 => ?_) (fun c1 => ?_)
  ·refine zai Tk (r := .tup [.i (.v (.slice none 0 0)), bb false]) rfl rfl rfl trivial rfl rfl ?_
   rfl
  ·have c1 : st ≠ 0 := beqF c1
   refine zad ?_
   refine ih (i + 1) _ _ ⟨h2, fun h => hno fun a ha => ?_⟩ (by omega) ⟨rfl, rfl, congrArg ii (zaB (n := 4096) (by omega) (by decide)), trivial⟩ rfl trivial rfl rfl
   rcases List.mem_cons.1 ha with rfl | ha
   ·exact c1
   ·exact h a ha
 ·have h2 : l.length ≤ i := by simpa using g1
  rw [List.drop_eq_nil_of_le h2] at hno
  exact absurd (by simp) hno
theorem zoM (O : List Heap) (l : List Aut) (ev : List Int) (M : List (List I)) (hl : l.length ≤ 12) (h0 : ∀ a ∈ l, a.states ≠ 0) : zan Tryz.prog 80 [zmT l ev M] O (.tup [ints (tup0 l), bb true]) [] O := by
 refine zaC [7] Tk Tryz.func80 rfl Tryz.call80 Tryz.ntmps80 (Nat.le_of_ble_eq_true rfl) fun E => ?_
 refine zaf Tk Tryz.func80 ?_
 refine zad ?_
 refine zag (fun i : Nat => [(1, .own 0 1 0 0), (7, auts l), (8, ii l.length), (9, ii i)]) (fun _ => [(1, .box [auts l, ints ev, .i (.sl 1 M.length M)])]) (fun _ => O) 21
  (fun i => i ≤ l.length) (fun i => l.length - i) 0 (Nat.zero_le _) ⟨rfl, rfl, rfl, rfl, trivial⟩ rfl ⟨rfl, trivial⟩ rfl rfl ?_
 rintro i hi ih
 refine zaf Tk Tryz.func80 ?_
 refine zae Tk Tryz.func80 rfl (fun g1 => ?_) (fun g1 => ?_)
 ·have h2 : i < l.length := by simpa using g1
  have gl := zeF h2
  have ha := h0 _ (List.getElem_mem h2)
  generalize l[i] = a at *
  obtain ⟨al, st, mk, es⟩ := a
  refine zak Tk Tryz.func80 (by exact ⟨by omega, by show (i : Int) < (l.length : Int); omega⟩) ?_
  refine zar Tk Tryz.func80 (gl) ?_
  refine zae Tk Tryz.func80 rfl (fun c1 => ?_) (fun c1 => ?_)
  ·exact absurd (beqT c1) ha
  ·refine zad ?_
   exact ih (i + 1) _ _ h2 (by omega) ⟨rfl, rfl, rfl, congrArg ii (zaB (n := 4096) (by omega) (by decide)), trivial⟩ rfl ⟨rfl, trivial⟩ rfl rfl
 ·refine zax ?_
  refine zaf Tk Tryz.func80 ?_
  refine g_go Tk Tryz.func80 ?_
  refine zak Tk Tryz.func80 (by exact ⟨by omega, by omega, by show ((l.length : Nat) : Int) * ((8 : Nat) : Int) ≤ 140737488355328; omega, by omega⟩) ?_
  refine zbm (zap 20 rfl rfl) ?_
  refine zai Tk (r := .tup [.i (.sl 1 ((l.length : Nat) : Int).toNat (List.replicate ((l.length : Nat) : Int).toNat [vi 0])), bb true]) rfl rfl rfl trivial rfl rfl ?_
  have e1 : (tup0 l).length = l.length := by simp [tup0]
  have e2 : (tup0 l).map (fun x => [vi x]) = List.replicate l.length [vi 0] := by
   unfold tup0
   rw [List.map_map]
   exact List.map_const' ..
  show D.tup [.i (.sl 1 _ _), _] = .tup [.i (.sl 1 (tup0 l).length ((tup0 l).map fun x => [vi x])), _]
  rw [e1, e2, Int.toNat_natCast]
theorem zqJ (O : List Heap) (l : List Aut) (ev : List Int) (M : List (List I)) (t : List Int) (hl : l.length ≤ 12) (ht : t.length = l.length) (hc : ∀ a ∈ l, chkA a = 0) (hs : ∀ a ∈ l, smallA a) : zan Tryz.prog 82 [zmT l ev M, ints t] O (bb (tMk l t)) [] O := by
 obtain ⟨R, hR⟩ : ∃ R, R = tMk (l.drop 0) (t.drop 0) := ⟨_, rfl⟩
 have e0 : tMk l t = R := hR.symm
 rw [e0]
 refine zaC [] Tk Tryz.func82 rfl Tryz.call82 Tryz.ntmps82 (Nat.le_of_ble_eq_true rfl) fun E => ?_
 refine zaf Tk Tryz.func82 ?_
 refine zad ?_
 refine zag (fun i : Nat => [(1, ints t), (8, auts l), (9, ii l.length), (10, ii i)]) (fun _ => []) (fun _ => O) 24
  (fun i => i ≤ l.length ∧ R = tMk (l.drop i) (t.drop i)) (fun i => l.length - i) 0 ⟨Nat.zero_le _, hR⟩ ⟨rfl, rfl, rfl, rfl, trivial⟩ rfl trivial rfl rfl ?_
 clear hR e0
 rintro i ⟨hi, hno⟩ ih
 refine zaf Tk Tryz.func82 ?_
 refine zae Tk Tryz.func82 rfl (fun g1 => ?_) (fun g1 => ?_)
 ·have h2 : i < l.length := by simpa using g1
  have h3 : i < t.length := by omega
  have gl := zeF h2
  have gt : (t.map fun x => [vi x])[(i : Int).toNat]? = some [vi t[i]] := zah (f := fun x => [vi x]) h3
  have dl : l.drop i = l[i] :: l.drop (i + 1) := List.drop_eq_getElem_cons h2
  have dt : t.drop i = t[i] :: t.drop (i + 1) := List.drop_eq_getElem_cons h3
  have ha := hc _ (List.getElem_mem h2)
  have ha2 := hs _ (List.getElem_mem h2)
  rw [dl, dt] at hno
  simp only [tMk] at hno
  clear dl dt
  generalize l[i] = a at *
  generalize t[i] = x at *
  obtain ⟨_, _, c3, _⟩ := zba ha
  have hsm := ha2.mkd
  have h1 := fun O => zdu O a.marked x (by simp only [zam]; omega) (zaD c3).1
  obtain ⟨al, st, mk, es⟩ := a
  generalize decide (x ∈ Aut.marked ⟨al, st, mk, es⟩) = b at *
  refine zak Tk Tryz.func82 (by exact ⟨by omega, by show (i : Int) < (l.length : Int); omega⟩) ?_
  refine zar Tk Tryz.func82 (gl) ?_
  refine zaq Tk Tryz.func82 zay rfl ?_
  refine zat Tk (by exact ⟨by omega, by show (i : Int) < (t.length : Int); omega⟩) ?_
  refine zaA Tk (gt) ?_
  refine zaN Tk (fun _ => h1 _) rfl rfl rfl ?_
  refine zav Tk Tryz.func82 (by kernel_rfl) ?_
  refine zae Tk Tryz.func82 rfl (fun c1 => ?_) (fun c1 => ?_)
  ·have c1 : b = false := notT c1
   subst c1
   rw [Bool.false_and] at hno
   subst hno
   refine zai Tk (r := bb false) rfl rfl rfl trivial rfl rfl ?_
   rfl
  ·have c1 : b = true := notF c1
   subst c1
   rw [Bool.true_and] at hno
   refine zad ?_
   exact ih (i + 1) _ _ ⟨h2, hno⟩ (by omega) ⟨rfl, rfl, rfl, congrArg ii (zaB (n := 4096) (by omega) (by decide)), trivial⟩ rfl trivial rfl rfl
 ·have h2 : l.length ≤ i := by simpa using g1
  rw [List.drop_eq_nil_of_le h2] at hno
  simp only [tMk] at hno
  subst hno
  refine zai Tk (r := bb true) rfl rfl rfl trivial rfl rfl ?_
  rfl
end Go.AI


namespace Go.AI
open Go.Proofs
def zsH (ts : List (Nat × Obj)) (O : List Heap) (ρ : Nat → Nat → Loc) (w : World) : Prop := ∀ p ∈ ts, TabQ p.1 p.2 O ρ w
def TabsE (ts : List (Nat × Obj)) (E : Env) (O : List Heap) : Prop := ∀ p ∈ ts, TabE p.1 p.2 E O
theorem Base.trans {E0 E E' : Env} {O : List Heap} (h : Base E0 E O) (h' : Base E E' O) : Base E0 E' O := by
 refine ⟨Kn.le_trans h.K h'.K, fun d => (h'.ρ d).trans (h.ρ d), fun b hp => h'.pr b (h.pr b hp), fun b o x e => ?_, Nat.le_trans h.size h'.size, fun b hp ho => ?_, ⟨h'.rest.1.trans h.rest.1, h'.rest.2.1.trans h.rest.2.1, h'.rest.2.2.trans h.rest.2.2⟩⟩
 ·rcases h'.new b o x e with h1 | h1
  ·exact h.new b o x h1
  ·exact .inr fun hp => h1 (h.pr b hp)
 ·rw [h'.old b (h.pr b hp) fun dep nm ob e hb => ?_]
  ·exact h.old b hp ho
  ·have e2 : E.ρ0 dep = E0.ρ0 dep := h.ρ dep
   rw [e2] at hb ⊢
   exact ho dep nm ob e hb
theorem TabsE.base {ts : List (Nat × Obj)} {E E' : Env} {O : List Heap} (h : TabsE ts E O) (hb : Base E E' O) : TabsE ts E' O := fun p hp => hb.eok.tb p.1 p.2 O rfl (h p hp)
def zmm (ts : List (Nat × Obj)) (P : Program) (f : FuncId) (args : List D) (O : List Heap) (res : D) (Hr : Heap) (O' : List Heap) : Prop :=
 ∀ E K ρ w vs, HInv E K ρ O w → zsH ts O ρ w → RepDL K ρ (shape O) vs args →
  Exec P f vs.toArray w fun v w' => ∃ K' ρ', HInv (.of K ρ w) K' ρ' (Hr :: O') w' ∧ RepD K' ρ' (shape (Hr :: O')) v res
def zsI {α : Type} (ts : List (Nat × Obj)) (P : Program) (f : FuncId) (args : List D) (O : List Heap) (Q : α → Prop) (res : α → D) (tabs : α → List (Nat × Obj)) : Prop :=
 ∀ E K ρ w vs, HInv E K ρ O w → zsH ts O ρ w → RepDL K ρ (shape O) vs args →
  Exec P f vs.toArray w fun v w' => ∃ x, Q x ∧ (∃ K' ρ', HInv (.of K ρ w) K' ρ' ([] :: O) w' ∧ RepD K' ρ' (shape ([] :: O)) v (res x)) ∧ ∀ p ∈ tabs x, w.heap.size ≤ p.1 ∧ w'.heap[p.1]? = some p.2
def ztG {α : Type} (E0 : Env) (Q : α → Prop) (res : α → D) (tabs : α → List (Nat × Obj)) (O : List Heap) : Value → World → Prop := fun v w' => ∃ x, Q x ∧ zcQ E0 (res x) [] O v w' ∧ ∀ p ∈ tabs x, ¬ E0.pr p.1 ∧ w'.heap[p.1]? = some p.2
section
variable {P : Program} {T : TT} {f : FuncId} {fn : Func} {code : Code}
theorem ziY {args : List D} {O : List Heap} {K : Kn} {ρ ρ1 : Nat → Nat → Loc} {w : World} {vs : List Value} {n m : Nat} (hI : HInv (.of K ρ w) K ρ1 ([] :: O) w) (hρ1 : ∀ d, ρ1 (d + 1) = ρ d) (hrep : RepDL K ρ (shape O) vs args) (hn : m = n) (hlen : args.length ≤ n) :
  Inv (.of K ρ w) K ρ1 { σ := argσ 0 (D.shifts 1 args), S := [] :: O, n := n } { tmps := vs.toArray ++ Array.replicate (m - vs.toArray.size) undef, defers := [] } w := by
 have hvl := hrep.length
 refine ⟨hI, rfl, by simp; omega, fun t d e => ?_⟩
 rw [zd9] at e
 simp only [Nat.zero_le, if_true, Nat.sub_zero] at e
 have hsh : RepDL K ρ1 (shape ([] :: O)) vs (D.shifts 1 args) := by
  refine RepDL.shift (ρ := ρ1) (sh := shape ([] :: O)) 1 ?_
  have e1 : (fun d n => ρ1 (1 + d) n) = ρ := by funext d n; rw [Nat.add_comm, hρ1]
  have e2 : (fun d n => shape ([] :: O) (1 + d) n) = shape O := by
   funext d n
   rw [Nat.add_comm]
   simp [shape, zaa]
  rw [e1, e2]
  exact hrep
 obtain ⟨y, hy, hr⟩ := hsh.get e
 have : (vs.toArray ++ Array.replicate (m - vs.toArray.size) undef).getD t undef = y := by
  have hlt : t < vs.length := (List.getElem?_eq_some_iff.1 hy).1
  simp only [Array.getD_eq_getD_getElem?]
  rw [Array.getElem?_append_left (by simpa using hlt)]
  simp [hy]
 rw [this]
 exact hr
theorem zgI {ts : List (Nat × Obj)} {O : List Heap} {K : Kn} {ρ : Nat → Nat → Loc} {w : World} (h : zsH ts O ρ w) : TabsE ts (.of K ρ w) O := fun p hp => ⟨h p hp, (Array.getElem?_eq_some_iff.1 (h p hp).1).1⟩
theorem zke {ts : List (Nat × Obj)} (stop : List Nat) (hT : TOk P T) (hf : P.funcs[f]? = some fn) (hb : fn.body = some code) (hcall : ∀ args w, (callFunc f args).run P w = .ok (.enter f args) w) {args : List D} {O O' : List Heap} {res : D} {Hr : Heap} {n : Nat}
  (hn : fn.ntmps = n) (hlen : args.length ≤ n)
  (h : ∀ E, TabsE ts E O → Rch { P := P, T := T, E := E, f := f, fn := fn, post := zcQ E res Hr O', stop := stop } [.code code] { σ := argσ 0 (D.shifts 1 args), S := [] :: O, n := n }) : zmm ts P f args O res Hr O' := by
 intro E K ρ w vs hw htab hrep
 refine .inl ⟨hcall _ _, fun cs => ?_⟩
 obtain ⟨ρ1, hρ1, hI⟩ := zcx hw
 let b : Frame := { (default : Frame) with fn := f, kind := .normal }
 have henter : Frame.enter P f vs.toArray .normal = b.at { tmps := vs.toArray ++ Array.replicate (fn.ntmps - vs.toArray.size) undef, defers := [] } [.code code] := by
  simp [Frame.enter, Frame.at, hf, hb, b]
 obtain ⟨v, w', fr, hp, hst, hfr, hlv⟩ := h (.of K ρ w) (zgI htab) K ρ1 _ w b cs (ziY hI hρ1 hrep hn hlen) rfl rfl
 rw [← henter] at hst
 exact ⟨.returned v, w', fr, ⟨v, rfl, hp⟩, hst, hfr, hlv⟩
theorem zm0 {α : Type} (Q : α → Prop) (res : α → D) (tabs : α → List (Nat × Obj)) {ts : List (Nat × Obj)} (stop : List Nat) (hT : TOk P T) (hf : P.funcs[f]? = some fn) (hb : fn.body = some code) (hcall : ∀ args w, (callFunc f args).run P w = .ok (.enter f args) w) {args : List D} {O : List Heap} {n : Nat}
  (hn : fn.ntmps = n) (hlen : args.length ≤ n)
  (h : ∀ E, TabsE ts E O → Rch { P := P, T := T, E := E, f := f, fn := fn, post := ztG E Q res tabs O, stop := stop } [.code code] { σ := argσ 0 (D.shifts 1 args), S := [] :: O, n := n }) : zsI ts P f args O Q res tabs := by
 intro E K ρ w vs hw htab hrep
 refine .inl ⟨hcall _ _, fun cs => ?_⟩
 obtain ⟨ρ1, hρ1, hI⟩ := zcx hw
 let b : Frame := { (default : Frame) with fn := f, kind := .normal }
 have henter : Frame.enter P f vs.toArray .normal = b.at { tmps := vs.toArray ++ Array.replicate (fn.ntmps - vs.toArray.size) undef, defers := [] } [.code code] := by
  simp [Frame.enter, Frame.at, hf, hb, b]
 obtain ⟨v, w', fr, ⟨x, hx, hp, ht⟩, hst, hfr, hlv⟩ := h (.of K ρ w) (zgI htab) K ρ1 _ w b cs (ziY hI hρ1 hrep hn hlen) rfl rfl
 rw [← henter] at hst
 exact ⟨.returned v, w', fr, ⟨v, rfl, x, hx, hp, fun p hp => ⟨Nat.le_of_not_lt (ht p hp).1, (ht p hp).2⟩⟩, hst, hfr, hlv⟩
end
section
variable {c : Cx} {s : St} {k : List Item} {ops : Array Oper} {rest : List Nat} {o : Oper}
theorem zss (hT : TOk c.P c.T) (hfn : c.P.funcs[c.f]? = some c.fn) {α : Type} {Q : α → Prop} {res : α → D} {tabs : α → List (Nat × Obj)} {ts : List (Nat × Obj)} {O0 : List Heap} (htab : TabsE ts c.E O0) {i t : Nat} {f : FuncId} {args : List D} {H : Heap} {O : List Heap} (hS : s.S = H :: O) (hO : shape O = shape O0)
  (ho : ops[i]? = some o) (hg : o.guard = none) (hd : o.dst = some t) (hn : Nat.ble (t + 1) s.n = true) (hex : exec c.T s o = .call f args) (hspec : zsI ts c.P f (D.imms H args) (H :: O) Q res tabs)
  (h : ∀ x E3, Q x → Base c.E E3 O → TabsE (tabs x) E3 O → (∀ p ∈ tabs x, ¬ c.E.pr p.1) → GM { c with E := E3 } (run c.T c.stop 1000 (.inRegion ops rest :: k) (zms s t (res x).down (H :: O)))) : GM c (.pause ops i rest o s k) := by
 refine ⟨?_⟩
 intro K ρ a w hi
 simp only [wpOps, ho, zct hi (show zaQ ops s o = some true by unfold zaQ; rw [hg]), if_true]
 have hsnd := zfn hT hi.h (.inl hd) fun x _ => hi.ev x
 rw [hex] at hsnd
 obtain ⟨vs, hrun, hrep⟩ := hsnd
 have hh := hi.h
 have hrep' := RepDL.imm hh hrep
 rw [hS] at hh hrep'
 refine .inl ?_
 have fin : ∀ v w', (∃ x, Q x ∧ (∃ K' ρ', HInv (.of K ρ w) K' ρ' ([] :: H :: O) w' ∧ RepD K' ρ' (shape ([] :: H :: O)) v (res x)) ∧ ∀ p ∈ tabs x, w.heap.size ≤ p.1 ∧ w'.heap[p.1]? = some p.2) → wpOps c.P ops (fun e a' w' => e = .normal ∧ Ends c k a' w') rest (a.put o.dst v) w' := by
  intro v w' ⟨x, hx, ⟨K', ρ', h1, h2⟩, h3⟩
  obtain ⟨ρ'', hI, hst, hdn⟩ := hh.back h1 rfl (fun nm h => by simp [look] at h)
  have e0 : (zbA [] ++ H) :: O = H :: O := rfl
  rw [e0] at hI hst hdn
  have hlt : ∀ b, (∃ p ∈ tabs x, p.1 = b) → b < w'.heap.size := by
   rintro b ⟨p, hp, rfl⟩
   exact (Array.getElem?_eq_some_iff.1 (h3 p hp).2).1
  have hblk : ∀ d nm ob, zaa (H :: O) d nm = some ob → zas (ρ'' d nm) ob → (ρ'' d nm).block < w.heap.size := by
   intro d nm ob e hbk
   have el : ρ'' d nm = ρ d nm := hst.loc d nm ob.sh (by simp [shape, e])
   rw [el] at hbk ⊢
   have := hh.own d nm ob e
   exact this.lt (by simpa using hbk)
  have hfree : ∀ nm ob b, (∃ p ∈ tabs x, p.1 = b) → zaa (H :: O) 0 nm = some ob → zas (ρ'' 0 nm) ob → (ρ'' 0 nm).block ≠ b := by
   rintro nm ob b ⟨p, hp, rfl⟩ e hbk he
   have := hblk 0 nm ob e hbk
   have := (h3 p hp).1
   omega
  have hR := hI.rebase hlt hfree
  have hB := zpu hI (Base.refl c.E O) hlt
  have hTb : TabsE (tabs x) (reE c.E K' w' (fun b => ∃ p ∈ tabs x, p.1 = b) hlt hI.size) O := by
   intro p hp
   refine ⟨⟨(h3 p hp).2, fun d nm sh e hbk he => ?_⟩, .inr ⟨p, hp, rfl⟩⟩
   have ho2 : ρ'' (d + 1) = c.E.ρ0 d := hI.outer d
   have hρ : (reE c.E K' w' (fun b => ∃ p ∈ tabs x, p.1 = b) hlt hI.size).ρ0 d nm = ρ'' (d + 1) nm := by rw [ho2]; rfl
   rw [hρ] at hbk he
   unfold shape at e
   cases hob : zaa O d nm with
   | none => simp [hob] at e
   | some ob =>
    simp only [hob, Option.map_some, Option.some.injEq] at e
    subst e
    have := hblk (d + 1) nm ob (by simpa [zaa] using hob) (zeM.2 hbk)
    have := (h3 p hp).1
    omega
  have hnp : ∀ p ∈ tabs x, ¬ c.E.pr p.1 := fun p hp hpr => by
   have := c.E.lt _ hpr
   have := hh.size
   have := (h3 p hp).1
   omega
  have hG := (h x _ hx hB hTb hnp).h
  have hk := zaY (c := { c with E := reE c.E K' w' (fun b => ∃ p ∈ tabs x, p.1 = b) hlt hI.size }) hT hfn 1000 (.inRegion ops rest :: k) _ hG
  rw [zff] at hk
  refine hk K' ρ'' _ w' ?_
  rw [hd]
  refine ⟨hR, by simp [Act.put]; exact hi.defers, by simp [Act.put]; exact hi.size, fun t' d' e' => ?_⟩
  rw [zch (by rw [hi.size]; exact Nat.le_of_ble_eq_true hn)]
  simp only [zab] at e'
  split at e'
  ·rename_i e2
   simp only [Option.some.injEq] at e'
   subst e'
   rw [if_pos e2]
   exact h2.down hdn
  ·rename_i e2
   rw [if_neg e2]
   have h4 := hi.slots _ _ e'
   rw [hS] at h4
   exact h4.stays hst
 rcases hspec c.E K ρ w vs hh (fun p hp => zev (htab p hp) hO hh) hrep' with ⟨h1, h2⟩ | ⟨v, w', h1, h2⟩
 ·rw [h1] at hrun
  simp only [Oper.wp, hrun, Oper.upon]
  refine h2.mono ?_
  rintro e w' ⟨v, rfl, hR⟩
  exact fin v w' hR
 ·rw [h1] at hrun
  simp only [Oper.wp, hrun, Oper.upon]
  exact fin v w' h2
theorem ztp (hT : TOk c.P c.T) {α : Type} {Q : α → Prop} {res : α → D} {tabs : α → List (Nat × Obj)} {E0 : Env} {d r : D} {H : Heap} {O : List Heap} (x : α) (hx : Q x) (hb : Base E0 c.E O) (hp : c.post = ztG E0 Q res tabs O) (htab : TabsE (tabs x) c.E O) (hnp : ∀ p ∈ tabs x, ¬ E0.pr p.1)
  (hd : resD c.T s c.fn.results.toList = some d) (hS : s.S = H :: O) (hr : d.ret H [] = r) (he : CoD r (res x)) : GM c (.ret s) := by
 refine ⟨?_⟩
 have h := zhH (c := { c with post := zcQ c.E (res x) [] O }) (Hr := []) (hT := hT) rfl hd hS trivial hr rfl he
 intro K ρ a w hi
 obtain ⟨v, hv, K', ρ', h1, h2⟩ := h K ρ a w hi
 refine ⟨v, hv, ?_⟩
 rw [hp]
 have hh := hi.h
 rw [hS] at hh
 exact ⟨x, hx, ⟨K', ρ', h1.unbase hb, h2⟩, fun p hp => ⟨hnp p hp, (zev (htab p hp) rfl hh).1⟩⟩
end
section
variable {c : Cx} {s : St} {k : List Item} {ops : Array Oper} {rest : List Nat} {o : Oper} {H : Heap} {O : List Heap}
def zkU (ob : Obj) (m : MC) : Prop := ∃ es ck, ob = .map es ck ∧ es.toList.map (fun e => (e.key, e.val)) = m.vals
theorem zqZ {K : Kn} {ρ : Nat → Nat → Loc} {a : Act} {w : World} {E : Env} {nm t : Nat} {kk : KK} {m : MC} (hi : Inv E K ρ s a w) (hS : s.S = H :: O) (ho : look H nm = some (.mp kk m)) (ht : look s.σ t = some (.osl 0 nm)) :
  ∃ E' b ob, Base E E' O ∧ TabE b ob E' O ∧ ¬ E.pr b ∧ zkU ob m ∧ Inv E' K ρ { σ := (t, .i (.v (.map (some b)))) :: zdy nm s.σ, S := zbp nm H :: O, n := s.n } a w := by
 have hh := hi.h
 rw [hS] at hh
 have ho' : zaa (H :: O) 0 nm = some (.mp kk m) := by simpa [zaa] using ho
 have h0 := hh.own 0 nm _ ho'
 have hD := hh.dropNm nm
 have hbk : zas (ρ 0 nm) (.mp kk m) := trivial
 obtain ⟨⟨es, ck, h1, h2, h3⟩, h4⟩ := id h0
 have hlt : ∀ b, b = (ρ 0 nm).block → b < w.heap.size := by rintro b rfl; exact h0.lt hbk
 have hfree : ∀ nm' ob b, b = (ρ 0 nm).block → zaa (zbp nm H :: O) 0 nm' = some ob → zas (ρ 0 nm') ob → (ρ 0 nm').block ≠ b := by
  rintro nm' ob b rfl e hb he
  obtain ⟨o0, a1, a2, a3, _⟩ := zca e
  exact a2 (hh.inj _ _ _ _ _ _ a1 ho' ((a3 _).1 hb) hbk he)
 have hI := hD.rebase hlt hfree
 have hB := zpu hD (Base.refl E O) hlt
 refine ⟨_, (ρ 0 nm).block, .map es ck, hB, ⟨⟨h1, fun d nm' sh e hb he => ?_⟩, .inr rfl⟩, hh.loc nm _ ho' hbk, ⟨es, ck, rfl, h2⟩, hI, hi.defers, hi.size, fun t' d e => ?_⟩
 ·have ho2 : ρ (d + 1) = E.ρ0 d := hh.outer d
  have hρ : (reE E K w (fun b => b = (ρ 0 nm).block) hlt hD.size).ρ0 d nm' = ρ (d + 1) nm' := by rw [ho2]; rfl
  rw [hρ] at hb he
  unfold shape at e
  cases hob : zaa O d nm' with
  | none => simp [hob] at e
  | some ob =>
   simp only [hob, Option.map_some, Option.some.injEq] at e
   subst e
   have := hh.inj (d + 1) nm' ob 0 nm _ (by simpa [zaa] using hob) ho' (zeM.2 hb) hbk he
   omega
 ·have hsl : ∀ t' d0, look s.σ t' = some d0 → RepD K ρ (shape (zbp nm H :: O)) (a.tmps.getD t' undef) (d0.kill nm) := by
   intro t' d0 e0
   have h1 := hi.slots t' d0 e0
   rw [hS] at h1
   exact RepD.kill (zlF (ρ := ρ) (H := H) (O := O) nm) h1
  simp only [zab] at e
  split at e
  ·rename_i e2
   subst e2
   simp only [Option.some.injEq] at e
   subst e
   have h1 := hi.slots t _ ht
   rw [hS] at h1
   rw [zjH h1 (by simp [shape, zaa, ho, Ob.sh])]
   exact .i (.v rfl)
  ·rw [zb7] at e
   cases hl : look s.σ t' with
   | none => simp [hl] at e
   | some d0 =>
    simp only [hl, Option.map_some, Option.some.injEq] at e
    subst e
    exact hsl _ _ hl
theorem zjt {todo : List Item} {nm : Nat} {kk : KK} {m : MC} (t : Nat) (hS : s.S = H :: O) (ho : look H nm = some (.mp kk m)) (ht : look s.σ t = some (.osl 0 nm))
  (h : ∀ E' b ob, Base c.E E' O → TabE b ob E' O → ¬ c.E.pr b → zkU ob m → Rch { c with E := E' } todo { σ := (t, .i (.v (.map (some b)))) :: zdy nm s.σ, S := zbp nm H :: O, n := s.n }) : Rch c todo s := by
 intro K ρ a w b cs hi h1 h2
 obtain ⟨E', bl, ob, hB, hT, hn, hm, hi'⟩ := zqZ hi hS ho ht
 exact h E' bl ob hB hT hn hm K ρ a w b cs hi' h1 h2
end
section
variable {c : Cx} {ops : Array Oper} {O : List Heap} {n : Nat} {F : SH → List Pl → Prop}
def zoG (k : IntKind) (l : List (Value × Int)) (key : Value) (ok : Bool) : D := bif ok then .tup [.i (.v (.int k (zcS l key))), .i (.v (.bool (mhas l key)))] else .i (.v (.int k (zcS l key)))
theorem zjn {P : Program} {w : World} {tm kt vt b : Nat} {ki vi : TI} {kk : KK} {k : IntKind} {l : List (Value × Int)} {ob : Obj} {key : Value} (hu : P.underlying tm = some (.map kt vt)) (hk : TIok P kt ki) (hv : TIok P vt vi) (hkk : ki.isKK kk = true) (hkey : kk.ok key = true) (hz : vi.zero = [.int k 0]) (ha : vi.k.agg = false)
  (hb : w.heap[b]? = some ob) (hm : zkU ob (.i k l)) (hl : ∀ p ∈ l, kk.ok p.1 = true) (ok : Bool) : ∃ v, (Instr.lookup tm (.map (some b)) key ok).run P w = .ok v w ∧ ∀ K ρ sh, RepD K ρ sh v (zoG k l key ok) := by
 obtain ⟨es, ck, rfl, he⟩ := hm
 have hm' : ∀ p ∈ (MC.i k l).vals, kk.ok p.1 = true := by
  intro p hp
  obtain ⟨q, hq, rfl⟩ := List.mem_map.1 hp
  exact hl q hq
 have hr := zey (P := P) (w := w) hu hk hv hkk hkey hz ha hb he hm' ok
 have hlk := zcH (fun n : Int => Value.int k n) l key 0
 have hg : ((zaU (MC.vals (.i k l)) key 0).map (·.2)).getD (.int k 0) = .int k (zcS l key) := by
  show ((zaU (l.map fun p => (p.1, Value.int k p.2)) key 0).map (·.2)).getD _ = _
  rw [hlk]
  unfold zcS
  cases zbg l key <;> rfl
 have hs : (zaU (MC.vals (.i k l)) key 0).isSome = mhas l key := by
  show (zaU (l.map fun p => (p.1, Value.int k p.2)) key 0).isSome = _
  have := congrArg Option.isSome hlk
  simpa [mhas] using this
 rw [hg, hs] at hr
 cases ok with
 | true => exact ⟨_, hr, fun K ρ sh => .tup (.cons (za3 rfl) (.cons (za3 rfl) .nil))⟩
 | false => exact ⟨_, hr, fun K ρ sh => za3 rfl⟩
theorem zmu {o : Oper} {v : SH} {t tm kt vt b : Nat} {px pi : Operand} {ok : Bool} {ti ki vi : TI} {kk : KK} {k : IntKind} {l : List (Value × Int)} {ob : Obj} {key : Value} (hT : TOk c.P c.T) (hw : zaQ ops (St.of O n v) o = some true) (ht : o.dst = some t) (hn : Nat.ble (t + 1) n = true) (hop : o.op = .lookup tm px pi ok)
  (hx : evD (St.of O n v) px = .i (.v (.map (some b)))) (hi : (evD (St.of O n v) pi).keyOf = some key) (htab : TabE b ob c.E O) (hm : zkU ob (.i k l))
  (h1 : look c.T tm = some ti) (hk1 : ti.k = .map kt vt) (h2 : look c.T kt = some ki) (h3 : look c.T vt = some vi) (hkk : ki.isKK kk = true) (hkey : kk.ok key = true) (hz : vi.zero = [.int k 0]) (ha : vi.k.agg = false) (hl : ∀ p ∈ l, kk.ok p.1 = true) :
  zgr c ops O n o v (.one t (zoG k l key ok)) := by
 refine .inr ⟨hw, fun E hE K ρ a w hi' next Qe hnx => ?_⟩
 have hu : c.P.underlying tm = some (.map kt vt) := by have := (hT _ _ h1).kind; rw [hk1] at this; exact this
 have rx := hi'.ev px
 rw [hx] at rx
 have ri := hi'.ev pi
 have evx := zaI rx
 have evi := zf3 hi ri
 have hh : HInv E K ρ (v.2 :: O) w := hi'.h
 have hb := (zev (hE.tb b ob O rfl htab) rfl hh).1
 obtain ⟨val, hrun, hrep⟩ := zjn (P := c.P) (w := w) hu (hT _ _ h2) (hT _ _ h3) hkk hkey hz ha hb hm hl ok
 have hex : (execOp a.eval o).run c.P w = .ok (.value val) w := by
  simp only [execOp, hop, evx, evi, hrun, Sem.run_bind, Result.andThen_ok, Sem.run_pure]
 simp only [Oper.wp, hex, Oper.upon]
 refine hnx val w [(t, zoG k l key ok)] K ρ (Kn.le_refl _) (fun _ _ _ _ e => ⟨e, rfl⟩) ⟨hh, by rw [ht]; simp [Act.put]; exact hi'.defers, by rw [ht]; simp [Act.put]; exact hi'.size, fun t' d' e => ?_⟩ fun t' d' e => .inr e
 obtain ⟨rfl, rfl⟩ := zaG e
 rw [ht, zch (by rw [hi'.size]; exact Nat.le_of_ble_eq_true hn), if_pos rfl]
 exact hrep _ _ _
theorem ztQ {o : Oper} {rest : List Oper} {x : SH} {acc : List Pl} {lo : List Oper} {t i N tm kt vt b : Nat} {px pi : Operand} {ok : Bool} {ti ki vi : TI} {kk : KK} {k : IntKind} {l : List (Value × Int)} {ob : Obj} {key : Value} (hT : TOk c.P c.T) (htab : TabE b ob c.E O) (hm : zkU ob (.i k l)) (hl : ∀ p ∈ l, kk.ok p.1 = true) (hlo : lo = o :: rest) (hN : acc.length = N)
  (hw : zaQ ops (St.of O n (zaE ops o x)) o = some true) (ht : o.dst = some t) (hn : Nat.ble (t + 1) n = true) (hop : o.op = .lookup tm px pi ok)
  (hx : evD (St.of O n (zaE ops o x)) px = .i (.v (.map (some b)))) (hi : (evD (St.of O n (zaE ops o x)) pi).keyOf = some key)
  (h1 : look c.T tm = some ti) (hk1 : ti.k = .map kt vt) (h2 : look c.T kt = some ki) (h3 : look c.T vt = some vi) (hkk : ki.isKK kk = true) (hkey : kk.ok key = true) (hz : vi.zero = [.int k 0]) (ha : vi.k.agg = false)
  (h : GE c ops O n F (runS c.T ops O n i rest (setX x t (zoG k l key ok)) (acc ++ [.one t (zoG k l key ok)]))) : GE c ops O n (SegF c ops O n F N lo) (.done x acc) := by
 subst hlo
 exact ⟨⟨hN, zdT (zmu hT hw ht hn hop hx hi htab hm h1 hk1 h2 h3 hkk hkey hz ha hl) (za6 hT rest i _ _ h.h)⟩⟩
end
end Go.AI


namespace Go.AI
open Go.Proofs
theorem znb {ts : List (Nat × Obj)} {c : Cx} {s : St} {o : Oper} {Q : St → Prop} {f : FuncId} {args : List D} {res : D} {Hr H' : Heap} {O0 O' : List Heap} {t : Nat} (htab : TabsE ts c.E O0)
  (hspec : zmm ts c.P f (D.imms (zfa s.S) args) s.S res Hr (H' :: O')) (ht : o.dst = some t) (hn : t < s.n) {H : Heap} {O : List Heap} (hS : s.S = H :: O) (hO : shape O = shape O0) (hsh : shape (H' :: O') = shape s.S) (hf : ∀ nm, look Hr nm ≠ none → look H' nm = none)
  (hq : Q { σ := (t, res.down) :: s.σ, S := (zbA Hr ++ H') :: O', n := s.n }) : Does c o s Q (.call f args) := by
 intro K ρ a w hi ⟨vs, hrun, hrep⟩ next Qe hnext
 have hh := hi.h
 have hrep' := RepDL.imm hh hrep
 rw [hS] at hspec hsh hh hrep'
 have fin : ∀ v w', (∃ K' ρ', HInv (.of K ρ w) K' ρ' (Hr :: H' :: O') w' ∧ RepD K' ρ' (shape (Hr :: H' :: O')) v res) → next (a.put o.dst v) w' := by
  intro v w' ⟨K', ρ', h1, h2⟩
  obtain ⟨ρ'', hI, hst, hdn⟩ := hh.back h1 hsh hf
  refine hnext _ _ _ _ _ hst.le (fun d n x _ e => ⟨hst.shp _ _ _ (by rw [hS] at e; exact e), hst.loc _ _ _ (by rw [hS] at e; exact e)⟩) ?_ hq
  rw [ht]
  refine zc7 hi hn hI ?_ (h2.down hdn)
  rw [hS]; exact hst
 rcases hspec c.E K ρ w vs hh (fun p hp => zev (htab p hp) hO hh) hrep' with ⟨h1, h2⟩ | ⟨v, w', h1, h2⟩
 ·rw [h1] at hrun
  simp only [Oper.wp, hrun, Oper.upon]
  refine h2.mono ?_
  rintro e w' ⟨v, rfl, hR⟩
  exact fin v w' hR
 ·rw [h1] at hrun
  simp only [Oper.wp, hrun, Oper.upon]
  exact fin v w' h2
section
variable {c : Cx} {ops : Array Oper} {O : List Heap} {n : Nat} {F : SH → List Pl → Prop} {o : Oper} {rest : List Oper} {x : SH} {acc : List Pl} {i : Nat}
theorem zog (hT : TOk c.P c.T) {ts : List (Nat × Obj)} {O0 : List Heap} (htab : TabsE ts c.E O0) {f : FuncId} {args : List D} {res : D} {Hr : Heap} {t : Nat} (hspec : zmm ts c.P f (D.imms (zaE ops o x).2 args) ((zaE ops o x).2 :: O) res Hr ((zaE ops o x).2 :: O)) (ht : o.dst = some t) (hn : Nat.ble (t + 1) n = true)
  (hO : shape O = shape O0) (hf : zby Hr x.2 = true) (h : GE c ops O n F (runS c.T ops O n (i + 1) rest (newX x t res.down (zbA Hr)) (acc ++ [⟨[(t, res.down)], zbA Hr, none⟩]))) :
  GE c ops O n F (.at i o rest x acc (.call f args)) := by
 refine ⟨fun hro => ⟨⟨[(t, res.down)], zbA Hr, none⟩, (zhO hro).symm, fun E hE => ?_, za6 hT rest _ _ _ h.h⟩⟩
 refine znb (c := { c with E := E }) (s := vw ops O n o x) (H' := (zaE ops o x).2) (O' := O) (H := (zaE ops o x).2) (O := O) (fun p hp => hE.tb p.1 p.2 O0 hO (htab p hp)) hspec ht (Nat.le_of_ble_eq_true hn) rfl hO rfl (zbx (zec zfd hf)) ⟨rfl, rfl, fun t' d' e => ?_⟩
 obtain ⟨rfl, rfl⟩ := zaG e
 exact .inr (.inl (by simp [zab]))
end
end Go.AI
