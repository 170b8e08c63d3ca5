/- The layer of abstract runs, part 50. -/
import Derived.Test.YtmhllkmceipdcaaGreatDoorWaxZW
set_option linter.unusedSimpArgs false
set_option linter.unusedVariables false
set_option linter.all false

/- overseerlaw03: Events and Make. -/
namespace Go.AI
open Go.Proofs
set_option maxRecDepth 20000
abbrev u8D (x : Int) : D := .i (.v (.int .u8 x))
abbrev grC (gs gm : Int) (gt : Nat → Int) : List D := [u8D gs, u8D gm, u8D (gt 0), u8D (gt 1), u8D (gt 2), u8D (gt 3), u8D (gt 4), u8D (gt 5), u8D (gt 6), u8D (gt 7), u8D (gt 8), u8D (gt 9), u8D (gt 10), u8D (gt 11), u8D (gt 12), u8D (gt 13), u8D (gt 14), u8D (gt 15), u8D (gt 16), u8D (gt 17), u8D (gt 18), u8D (gt 19), u8D (gt 20), u8D (gt 21), u8D (gt 22), u8D (gt 23), u8D (gt 24)]
def bitP (b : Int) (i : Nat) : Bool := bits BinOp.and IntKind.u8 (b / 2 ^ Int.toNat (i : Int)) 1 == 1
def rawM (b : Int) (n : Nat) : List Int := ((List.range n).filter fun i => bitP b i).map fun (i : Nat) => (i : Int)
theorem rawM_succ (b : Int) (n : Nat) : rawM b (n + 1) = rawM b n ++ if bitP b n = true then [(n : Int)] else [] := by
  unfold rawM
  rw [List.range_succ, List.filter_append, List.map_append]
  congr 1
  by_cases h : bitP b n = true <;> simp [h]
theorem rawM_len (b : Int) (n : Nat) : (rawM b n).length ≤ n := by
  unfold rawM
  rw [List.length_map]
  exact Nat.le_trans (List.length_filter_le _ _) (by simp)
abbrev evsOf (b : Int) : List Int := rawM b 5
theorem events13 (O : List Heap) (b : Int) : ASpec Tryz.prog 13 [u8D b] O (ints (evsOf b)) [] O := by
  refine aspec_stop [7] Tk Tryz.func13 rfl Tryz.call13 Tryz.ntmps13 (Nat.le_of_ble_eq_true rfl) fun E => ?_
  refine g_run Tk Tryz.func13 ?_
  refine g_loop ?_
  refine rch_wk (wk_nil 3 17 3 1 rfl rfl rfl) ?_
  refine rch_loop2 (fun i : Nat => [(0, u8D b), (3, .osl 0 17), (4, ii i)]) (fun i => [(17, oints (rawM b i))]) (fun _ => O) 19
    (fun i => i ≤ 5) (fun i => 5 - i) 0 (Nat.zero_le _) ⟨rfl, rfl, rfl, trivial⟩ rfl ⟨rfl, trivial⟩ rfl rfl ?_
  intro i hi ih
  have hj1 : ii (IntKind.i64.wrap ((i : Int) + 1)) = ii ((i + 1 : Nat) : Int) := congrArg ii (wsucc (n := 1000001) (by omega) (by decide))
  have hs := rawM_succ b i
  have hl := rawM_len b i
  refine g_run Tk Tryz.func13 ?_
  first | refine g_cnd Tk Tryz.func13 rfl (fun g1 => ?_) (fun g1 => ?_) | refine g_know Tk Tryz.func13 rfl (fun g1 => ?_) (fun g1 => ?_) | refine s_know Tk (fun g1 => ?_) (fun g1 => ?_)
  · have g1 : (i : Int) < 5 := of_decide_eq_true g1
    first | refine g_need Tk Tryz.func13 (by exact ⟨by omega, by show (i : Int) ≤ (8 : Nat); omega⟩) ?_ | refine s_need Tk (by exact ⟨by omega, by show (i : Int) ≤ (8 : Nat); omega⟩) ?_
    first | refine g_cnd Tk Tryz.func13 rfl (fun g2 => ?_) (fun g2 => ?_) | refine g_know Tk Tryz.func13 rfl (fun g2 => ?_) (fun g2 => ?_) | refine s_know Tk (fun g2 => ?_) (fun g2 => ?_)
    · have g2 : bitP b i = true := g2
      rw [if_pos g2] at hs
      first | refine g_need Tk Tryz.func13 (by exact ⟨by show ((rawM b i).length + 1) * 8 ≤ 140737488355328; omega, by show (rawM b i).length + 1 ≤ 9223372036854775807; omega⟩) ?_ | refine s_need Tk (by exact ⟨by show ((rawM b i).length + 1) * 8 ≤ 140737488355328; omega, by show (rawM b i).length + 1 ≤ 9223372036854775807; omega⟩) ?_
      refine g_loop ?_
      refine ih (i + 1) _ _ (by omega) (by omega) ⟨rfl, rfl, hj1, trivial⟩ rfl ⟨?_, trivial⟩ rfl rfl
      rw [hs]
      exact congrArg some (oints_app (rawM b i) (i : Int))
    · have g2 : ¬ bitP b i = true := by intro h; exact absurd (g2.symm.trans h) (by decide)
      rw [if_neg g2, List.append_nil] at hs
      refine g_loop ?_
      exact ih (i + 1) _ _ (by omega) (by omega) ⟨rfl, rfl, hj1, trivial⟩ rfl ⟨by rw [hs]; rfl, trivial⟩ rfl rfl
  · have g1 : ¬ (i : Int) < 5 := of_decide_eq_false g1
    obtain rfl : i = 5 := by omega
    refine g_stop ?_
    refine rch_wk (wk_freeze 17 rfl rfl) ?_
    refine g_run Tk Tryz.func13 ?_
    refine g_go Tk Tryz.func13 ?_
    refine g_ret Tk (r := ints (evsOf b)) rfl rfl rfl trivial rfl rfl ?_
    rfl
def tgtV (x : Int) (n : Nat) : Int := (IntKind.i64.wrap x).tmod (IntKind.i64.wrap ((n : Int) + 2))
def rowE (gt : Nat → Int) (n i : Nat) (s : List Int) (k : Nat) : List Edg := (List.range k).filterMap fun k => match s[k]? with
  | some ev => if tgtV (gt (5 * i + k)) n < n then some ((i : Int), ev, tgtV (gt (5 * i + k)) n) else none
  | none => none
theorem rowE_succ {gt : Nat → Int} {n i : Nat} {s : List Int} {k : Nat} {ev : Int} (h : s[k]? = some ev) : rowE gt n i s (k + 1) = rowE gt n i s k ++ if tgtV (gt (5 * i + k)) n < n then [((i : Int), ev, tgtV (gt (5 * i + k)) n)] else [] := by
  unfold rowE
  rw [List.range_succ, List.filterMap_append]
  congr 1
  by_cases c : tgtV (gt (5 * i + k)) n < n <;> simp [h, c]
theorem rowE_len (gt : Nat → Int) (n i : Nat) (s : List Int) (k : Nat) : (rowE gt n i s k).length ≤ k := Nat.le_trans (List.length_filterMap_le _ _) (by simp)
def rawE (gt : Nat → Int) (n : Nat) (s : List Int) (i : Nat) : List Edg := (List.range i).flatMap fun i => rowE gt n i s s.length
theorem rawE_succ (gt : Nat → Int) (n : Nat) (s : List Int) (i : Nat) : rawE gt n s (i + 1) = rawE gt n s i ++ rowE gt n i s s.length := by
  unfold rawE
  rw [List.range_succ, List.flatMap_append]
  simp
theorem rawE_len (gt : Nat → Int) (n : Nat) (s : List Int) : ∀ i, (rawE gt n s i).length ≤ s.length * i
  | 0 => by simp [rawE]
  | i + 1 => by
    have := rawE_len gt n s i
    have := rowE_len gt n i s s.length
    rw [rawE_succ, List.length_append, Nat.mul_add, Nat.mul_one]
    omega
def rawN (gs : Int) : Nat := 1 + (gs % 5).toNat
def rawA (s : List Int) (gs gm : Int) (gt : Nat → Int) : Aut := ⟨s, rawN gs, rawM gm (rawN gs), rawE gt (rawN gs) s (rawN gs)⟩
def mkA (s : List Int) (gs gm : Int) (gt : Nat → Int) : Aut := if gs ≥ 250 then ⟨s, 0, [], []⟩ else canR (rawA s gs gm gt) (foundR (rawA s gs gm gt))
set_option maxHeartbeats 16000000 in
theorem make12 (O : List Heap) (s : List Int) (gs gm : Int) (gt : Nat → Int) (hsl : s.length ≤ 5) (hg0 : 0 ≤ gs) (hok : autOk (rawA s gs gm gt)) (hF : (foundR (rawA s gs gm gt)).length ≤ 4096) :
    ASpec Tryz.prog 12 [ints s, .agg (grC gs gm gt)] O (autD (mkA s gs gm gt)) [] O := by
  have hem := fun O => empty120 O s (by omega)
  have hcan := fun O => canonical58 O (rawA s gs gm gt) hok (by show (1 : Int) ≤ ((rawN gs : Nat) : Int); unfold rawN; omega) _ rfl hF
  have hn : IntKind.i64.wrap (1 + IntKind.i64.wrap (gs.tmod 5)) = ((rawN gs : Nat) : Int) := by
    rw [Int.tmod_eq_emod_of_nonneg hg0]
    have h1 : 0 ≤ gs % 5 ∧ gs % 5 < 5 := ⟨Int.emod_nonneg _ (by decide), Int.emod_lt_of_pos _ (by decide)⟩
    have w1 : IntKind.i64.wrap (gs % 5) = gs % 5 := w64 (by omega) (by omega)
    rw [w1, w64 (by omega) (by omega)]
    unfold rawN
    omega
  have hn5 : rawN gs ≤ 5 := by
    have h1 : 0 ≤ gs % 5 ∧ gs % 5 < 5 := ⟨Int.emod_nonneg _ (by decide), Int.emod_lt_of_pos _ (by decide)⟩
    unfold rawN
    omega
  unfold mkA
  refine aspec_stop [10, 13, 14, 16] Tk Tryz.func12 rfl Tryz.call12 Tryz.ntmps12 (Nat.le_of_ble_eq_true rfl) fun E => ?_
  refine g_run Tk Tryz.func12 ?_
  first | refine g_cnd Tk Tryz.func12 rfl (fun c1 => ?_) (fun c1 => ?_) | refine g_know Tk Tryz.func12 rfl (fun c1 => ?_) (fun c1 => ?_) | refine s_know Tk (fun c1 => ?_) (fun c1 => ?_)
  · rw [if_pos (of_decide_eq_true c1)]
    first | refine g_call Tk Tryz.func12 (hem _) rfl rfl rfl rfl rfl ?_ | refine s_callq Tk (fun _ => hem _) rfl rfl rfl ?_
    refine g_ret_co Tk (r := .agg [ints s, ii 0, .i (.v (.slice none 0 0)), .i (.v (.slice none 0 0))]) rfl rfl rfl trivial rfl rfl ?_
    repeat' (first | refine coD_tup ?_ | refine coD_agg ?_ | refine coD_i ?_ | refine CoDL.cons ?_ ?_ | exact CoDL.nil | exact coI_nil | refine coI_sl ?_ | refine CoLL.cons ?_ ?_ | exact CoLL.nil | refine CoL.cons ?_ ?_ | exact CoL.nil | exact CoI.refl _ | exact CoL.refl _ | exact CoLL.refl _ | exact CoDL.refl _ | exact CoD.refl _)
  rw [if_neg (of_decide_eq_false c1)]
  clear c1
  generalize canR (rawA s gs gm gt) (foundR (rawA s gs gm gt)) = R at *
  have hcan : ∀ O, ASpec Tryz.prog 41 [.agg [ints s, ii (rawN gs), ints (rawM gm (rawN gs)), edgs (rawE gt (rawN gs) s (rawN gs))]] O (autD R) [] O := hcan
  generalize rawN gs = n at *
  first | refine g_call Tk Tryz.func12 (hem _) rfl rfl rfl rfl rfl ?_ | refine s_callq Tk (fun _ => hem _) rfl rfl rfl ?_
  first | refine g_need Tk Tryz.func12 (by decide) ?_ | refine s_need Tk (by decide) ?_
  refine g_loop ?_
  refine rch_wk (wk_nilbox2 5 38 3 1 (pre := [ints s, ii _]) (post := [.i (.v (.slice none 0 0))]) rfl rfl rfl) ?_
  refine rch_wk (wk_nilbox2 5 75 79 3 (pre := [ints s, ii _, .osl 0 38]) (post := []) rfl rfl rfl) ?_
  refine rch_loop2 (fun i : Nat => [(0, ints s), (3, .own 0 3 0 0), (4, .own 0 4 0 0), (5, .own 0 5 0 0), (6, ii i)]) (fun i => [(3, .box (grC gs gm gt)), (4, zBox), (5, .box [ints s, ii n, .osl 0 38, .osl 0 75]), (38, oints (rawM gm i)), (75, oedgs (rawE gt n s i))]) (fun _ => O) 79
    (fun i => i ≤ n) (fun i => n - i) 0 (Nat.zero_le _) ⟨rfl, rfl, rfl, rfl, rfl, trivial⟩ rfl ⟨rfl, rfl, congrArg (fun z => some (Ob.box [ints s, ii z, .osl 0 38, .osl 0 75])) hn, rfl, rfl, trivial⟩ rfl rfl ?_
  intro i hi ih
  have hi1 : ii (IntKind.i64.wrap ((i : Int) + 1)) = ii ((i + 1 : Nat) : Int) := congrArg ii (wsucc (n := 1000001) (by omega) (by decide))
  refine g_run Tk Tryz.func12 ?_
  first | refine g_cnd Tk Tryz.func12 rfl (fun g1 => ?_) (fun g1 => ?_) | refine g_know Tk Tryz.func12 rfl (fun g1 => ?_) (fun g1 => ?_) | refine s_know Tk (fun g1 => ?_) (fun g1 => ?_)
  · have h2 : i < n := by simpa using g1
    clear g1
    have hm3 := rawM_succ gm i
    have hml := rawM_len gm i
    first | refine g_need Tk Tryz.func12 (by exact ⟨by omega, by show (i : Int) ≤ (8 : Nat); omega⟩) ?_ | refine s_need Tk (by exact ⟨by omega, by show (i : Int) ≤ (8 : Nat); omega⟩) ?_
    apply join_p (P := True) (s6 := { σ := [(0, ints s), (3, .own 0 3 0 0), (4, .own 0 4 0 0), (5, .own 0 5 0 0), (6, ii i)], S := [(3, .box (grC gs gm gt)), (4, zBox), (5, .box [ints s, ii n, .osl 0 38, .osl 0 75]), (38, oints (rawM gm (i + 1))), (75, oedgs (rawE gt n s i))] :: O, n := 79 })
    · intro J
      first | refine g_cnd Tk Tryz.func12 rfl (fun d1 => ?_) (fun d1 => ?_) | refine g_know Tk Tryz.func12 rfl (fun d1 => ?_) (fun d1 => ?_) | refine s_know Tk (fun d1 => ?_) (fun d1 => ?_)
      · have d1 : bitP gm i = true := d1
        rw [if_pos d1] at hm3
        first | refine g_need Tk Tryz.func12 (by exact ⟨by show ((rawM gm i).length + 1) * 8 ≤ 140737488355328; omega, by show (rawM gm i).length + 1 ≤ 9223372036854775807; omega⟩) ?_ | refine s_need Tk (by exact ⟨by show ((rawM gm i).length + 1) * 8 ≤ 140737488355328; omega, by show (rawM gm i).length + 1 ≤ 9223372036854775807; omega⟩) ?_
        refine g_stop ?_
        refine rch_meet (J trivial) ⟨rfl, rfl, rfl, rfl, rfl, trivial⟩ rfl ⟨rfl, rfl, rfl, ?_, rfl, trivial⟩ rfl rfl
        rw [hm3]
        exact congrArg some (oints_app (rawM gm i) (i : Int))
      · have d1 : ¬ bitP gm i = true := by intro h; exact absurd (d1.symm.trans h) (by decide)
        rw [if_neg d1, List.append_nil] at hm3
        refine g_stop ?_
        refine rch_meet (J trivial) ⟨rfl, rfl, rfl, rfl, rfl, trivial⟩ rfl ⟨rfl, rfl, rfl, by rw [hm3]; rfl, rfl, trivial⟩ rfl rfl
    intro _
    clear hm3 hml
    have hE := rawE_succ gt n s i
    have hEl := rawE_len gt n s i
    have hEl2 : s.length * i ≤ 5 * 5 := Nat.mul_le_mul hsl (by omega)
    refine g_run Tk Tryz.func12 ?_
    refine g_go Tk Tryz.func12 ?_
    refine g_loop ?_
    refine rch_loop2 (fun k : Nat => [(0, ints s), (3, .own 0 3 0 0), (4, .own 0 4 0 0), (5, .own 0 5 0 0), (6, ii i), (7, ii k)]) (fun k => [(3, .box (grC gs gm gt)), (4, zBox), (5, .box [ints s, ii n, .osl 0 38, .osl 0 75]), (38, oints (rawM gm (i + 1))), (75, oedgs (rawE gt n s i ++ rowE gt n i s k))]) (fun _ => O) 79
      (fun k => k ≤ s.length) (fun k => s.length - k) 0 (Nat.zero_le _) ⟨rfl, rfl, rfl, rfl, rfl, rfl, trivial⟩ rfl ⟨rfl, rfl, rfl, rfl, by show some (oedgs (rawE gt n s i)) = some (oedgs (rawE gt n s i ++ [])); rw [List.append_nil], trivial⟩ rfl rfl ?_
    intro k hk ih2
    refine g_run Tk Tryz.func12 ?_
    first | refine g_cnd Tk Tryz.func12 rfl (fun g2 => ?_) (fun g2 => ?_) | refine g_know Tk Tryz.func12 rfl (fun g2 => ?_) (fun g2 => ?_) | refine s_know Tk (fun g2 => ?_) (fun g2 => ?_)
    · have h3 : k < s.length := by simpa using g2
      clear g2
      first | refine g_cnd Tk Tryz.func12 rfl (fun g3 => ?_) (fun g3 => ?_) | refine g_know Tk Tryz.func12 rfl (fun g3 => ?_) (fun g3 => ?_) | refine s_know Tk (fun g3 => ?_) (fun g3 => ?_)
      rotate_left
      · have g3 : ¬ (k : Int) < 5 := of_decide_eq_false g3
        omega
      clear g3
      have ga : (s.map fun x => [vi x])[(k : Int).toNat]? = some [vi s[k]] := get_mapZ (f := fun x => [vi x]) h3
      have htk := rowE_succ (gt := gt) (n := n) (i := i) (List.getElem?_eq_getElem h3)
      have hpl := rowE_len gt n i s k
      have n2 : 0 ≤ (k : Int) ∧ (k : Int) < (s.length : Int) := by omega
      have hj1 : ii (IntKind.i64.wrap ((k : Int) + 1)) = ii ((k + 1 : Nat) : Int) := congrArg ii (wsucc (n := 1000001) (by omega) (by decide))
      generalize s[k] = ev at *
      have hnz : IntKind.i64.wrap ((n : Int) + 2) ≠ 0 := by rw [w64 (by omega) (by omega)]; omega
      apply join_p (P := True) (s6 := { σ := [(0, ints s), (3, .own 0 3 0 0), (4, .own 0 4 0 0), (5, .own 0 5 0 0), (6, ii i), (7, ii k), (8, ii (tgtV (gt (5 * i + k)) n))], S := [(3, .box (grC gs gm gt)), (4, zBox), (5, .box [ints s, ii n, .osl 0 38, .osl 0 75]), (38, oints (rawM gm (i + 1))), (75, oedgs (rawE gt n s i ++ rowE gt n i s k))] :: O, n := 79 })
      · intro J
        have hi5 : i = 0 ∨ i = 1 ∨ i = 2 ∨ i = 3 ∨ i = 4 := by omega
        have hk5 : k = 0 ∨ k = 1 ∨ k = 2 ∨ k = 3 ∨ k = 4 := by omega
        rcases hi5 with rfl | rfl | rfl | rfl | rfl <;> rcases hk5 with rfl | rfl | rfl | rfl | rfl <;>
          (refine g_go Tk Tryz.func12 ?_
           refine g_drawn Tk Tryz.func12 mixedT rfl ?_
           refine s_need Tk (by decide) ?_
           refine s_need Tk (by decide) ?_
           refine s_need Tk hnz ?_
           refine e_done Tk Tryz.func12 (by kernel_rfl) ?_
           refine g_stop ?_
           exact rch_meet (J trivial) ⟨rfl, rfl, rfl, rfl, rfl, rfl, rfl, trivial⟩ rfl ⟨rfl, rfl, rfl, rfl, rfl, trivial⟩ rfl rfl)
      intro _
      refine g_run Tk Tryz.func12 ?_
      refine g_go Tk Tryz.func12 ?_
      first | refine g_cnd Tk Tryz.func12 rfl (fun d1 => ?_) (fun d1 => ?_) | refine g_know Tk Tryz.func12 rfl (fun d1 => ?_) (fun d1 => ?_) | refine s_know Tk (fun d1 => ?_) (fun d1 => ?_)
      · have d1 : tgtV (gt (5 * i + k)) n < n := of_decide_eq_true d1
        rw [if_pos d1] at htk
        refine g_drawn Tk Tryz.func12 mixedT rfl ?_
        first | refine g_need Tk Tryz.func12 (by exact n2) ?_ | refine s_need Tk (by exact n2) ?_
        first | refine g_elem Tk Tryz.func12 (ga) ?_ | refine s_elem Tk (ga) ?_
        refine e_tail Tk Tryz.func12 ([10, 11, 12]) (by kernel_rfl) (by kernel_rfl) ?_
        first | refine g_need Tk Tryz.func12 (by exact ⟨by show ((rawE gt n s i ++ rowE gt n i s k).length + 1) * 24 ≤ 140737488355328; rw [List.length_append]; omega, by show (rawE gt n s i ++ rowE gt n i s k).length + 1 ≤ 9223372036854775807; rw [List.length_append]; omega⟩) ?_ | refine s_need Tk (by exact ⟨by show ((rawE gt n s i ++ rowE gt n i s k).length + 1) * 24 ≤ 140737488355328; rw [List.length_append]; omega, by show (rawE gt n s i ++ rowE gt n i s k).length + 1 ≤ 9223372036854775807; rw [List.length_append]; omega⟩) ?_
        refine g_loop ?_
        refine ih2 (k + 1) _ _ h3 (by omega) ⟨rfl, rfl, rfl, rfl, rfl, hj1, trivial⟩ rfl ⟨rfl, rfl, rfl, rfl, ?_, trivial⟩ rfl rfl
        rw [htk, ← List.append_assoc]
        exact congrArg some (oedgs_app (rawE gt n s i ++ rowE gt n i s k) ((i : Int), ev, tgtV (gt (5 * i + k)) n))
      · have d1 : ¬ tgtV (gt (5 * i + k)) n < n := of_decide_eq_false d1
        rw [if_neg d1, List.append_nil] at htk
        refine g_loop ?_
        exact ih2 (k + 1) _ _ h3 (by omega) ⟨rfl, rfl, rfl, rfl, rfl, hj1, trivial⟩ rfl ⟨rfl, rfl, rfl, rfl, by rw [htk]; rfl, trivial⟩ rfl rfl
    · have h3 : s.length ≤ k := by simpa using g2
      have hk2 : k = s.length := by omega
      repeat (first | refine gcT Tk Tryz.func12 rfl ?_ | refine gkT Tk Tryz.func12 rfl ?_ | refine skT Tk ?_ | refine gcF Tk Tryz.func12 rfl ?_ | refine gkF Tk Tryz.func12 rfl ?_ | refine skF Tk ?_)
      refine g_loop ?_
      refine ih (i + 1) _ _ h2 (by omega) ⟨rfl, rfl, rfl, rfl, hi1, trivial⟩ rfl ⟨rfl, rfl, rfl, rfl, ?_, trivial⟩ rfl rfl
      show some (oedgs (rawE gt n s i ++ rowE gt n i s k)) = _
      rw [hk2, hE]
  · have h2 : n ≤ i := by simpa using g1
    obtain rfl : i = n := by omega
    refine g_stop ?_
    refine rch_wk (wk_freeze 38 rfl rfl) ?_
    refine rch_wk (wk_freeze 75 rfl rfl) ?_
    refine rch_wk (wk_imm rfl) ?_
    refine g_run Tk Tryz.func12 ?_
    refine g_go Tk Tryz.func12 ?_
    first | refine g_call Tk Tryz.func12 (hcan _) rfl rfl rfl rfl rfl ?_ | refine s_callq Tk (fun _ => hcan _) rfl rfl rfl ?_
    refine g_ret Tk (r := autD R) rfl rfl rfl trivial rfl rfl ?_
    rfl
end Go.AI


/- Plain: what Make makes passes the check. -/
namespace Go.AI
theorem chkA_of {a : Aut} (h1 : checkSet 32 a.alpha none = 0) (h2 : 0 ≤ a.states ∧ a.states ≤ 4096) (h3 : checkSet a.states a.marked none = 0) (h4 : chkEds a.alpha a.states none a.edges = 0) : chkA a = 0 := by
  unfold chkA
  rw [if_neg (by rw [h1]; simp), if_neg (by omega), if_neg (by omega)]
  first
    | (rw [if_neg (by rw [h3]; simp)]; exact h4)
    | (simp only [h3, h4]; simp)
theorem rows_lt {f : Nat → List Edg} (h1 : ∀ i, ∀ x ∈ f i, x.1 = (i : Int)) (h2 : ∀ i, (f i).Pairwise fun x y => x.2.1 < y.2.1) : ∀ n, ((List.range n).flatMap f).Pairwise ltE
  | 0 => by simp
  | n + 1 => by
    rw [List.range_succ, List.flatMap_append, List.pairwise_append]
    refine ⟨rows_lt h1 h2 n, ?_, ?_⟩
    · rw [List.flatMap_cons, List.flatMap_nil, List.append_nil]
      have : (f n).Pairwise fun x y => (x ∈ f n ∧ y ∈ f n) ∧ x.2.1 < y.2.1 := List.Pairwise.imp_of_mem (fun {a b} ha hb h => ⟨⟨ha, hb⟩, h⟩) (h2 n)
      exact this.imp fun {x y} h => .inr ⟨by rw [h1 n x h.1.1, h1 n y h.1.2], h.2⟩
    · intro x hx y hy
      obtain ⟨i, hi, hx⟩ := List.mem_flatMap.1 hx
      rw [List.flatMap_cons, List.flatMap_nil, List.append_nil] at hy
      have := List.mem_range.1 hi
      exact .inl (by rw [h1 i x hx, h1 n y hy]; omega)
theorem rawM_ok (b : Int) (n : Nat) : (rawM b n).Pairwise (· < ·) ∧ ∀ x ∈ rawM b n, 0 ≤ x ∧ x < (n : Int) := by
  unfold rawM
  refine ⟨?_, fun x hx => ?_⟩
  · rw [List.pairwise_map]
    have : (List.range n).Pairwise (· < ·) := List.pairwise_lt_range
    exact (this.filter _).imp fun {a b} h => by omega
  · obtain ⟨i, hi, rfl⟩ := List.mem_map.1 hx
    have := List.mem_range.1 (List.mem_filter.1 hi).1
    omega
theorem tgtV_nn {x : Int} {n : Nat} (hx : 0 ≤ x ∧ x ≤ 255) (hn : n ≤ 5) : 0 ≤ tgtV x n := by
  unfold tgtV
  rw [w64 (by omega) (by omega), w64 (by omega) (by omega)]
  exact Int.tmod_nonneg _ hx.1
theorem rawN_b (gs : Int) : 1 ≤ rawN gs ∧ rawN gs ≤ 5 := by
  have h1 : 0 ≤ gs % 5 ∧ gs % 5 < 5 := ⟨Int.emod_nonneg _ (by decide), Int.emod_lt_of_pos _ (by decide)⟩
  unfold rawN
  omega
theorem mem_rowE {gt : Nat → Int} {n i : Nat} {s : List Int} {k : Nat} {x : Edg} (h : x ∈ rowE gt n i s k) : ∃ j, j < k ∧ ∃ ev, s[j]? = some ev ∧ tgtV (gt (5 * i + j)) n < n ∧ x = ((i : Int), ev, tgtV (gt (5 * i + j)) n) := by
  unfold rowE at h
  obtain ⟨j, hj, hx⟩ := List.mem_filterMap.1 h
  refine ⟨j, List.mem_range.1 hj, ?_⟩
  cases hs : s[j]? with
  | none => rw [hs] at hx; cases hx
  | some ev =>
    rw [hs] at hx
    by_cases c : tgtV (gt (5 * i + j)) n < n
    · simp only [c, if_true, Option.some.injEq] at hx
      exact ⟨ev, rfl, c, hx.symm⟩
    · simp only [c, if_false] at hx
      cases hx
theorem raw_ok {s : List Int} {gs gm : Int} {gt : Nat → Int} (hs : s.Pairwise (· < ·)) (hr : ∀ x ∈ s, 0 ≤ x ∧ x < 32) (hsl : s.length ≤ 5) (hg : ∀ j, 0 ≤ gt j ∧ gt j ≤ 255) : autOk (rawA s gs gm gt) := by
  obtain ⟨n1, n5⟩ := rawN_b gs
  have hm := rawM_ok gm (rawN gs)
  have hml := rawM_len gm (rawN gs)
  have hel := rawE_len gt (rawN gs) s (rawN gs)
  have hel2 : s.length * rawN gs ≤ 5 * 5 := Nat.mul_le_mul hsl n5
  refine ⟨by show (rawE gt (rawN gs) s (rawN gs)).length ≤ 1000000; omega, by show s.length ≤ 1000000; omega, by show (rawM gm (rawN gs)).length ≤ 1000000; omega, chkA_of ?_ ?_ ?_ ?_⟩
  · exact checkSet_of hs hr (fun y e => by cases e)
  · show (0 : Int) ≤ ((rawN gs : Nat) : Int) ∧ ((rawN gs : Nat) : Int) ≤ 4096
    omega
  · exact checkSet_of hm.1 hm.2 (fun y e => by cases e)
  · refine chkEds_of ?_ ?_ (fun y e => by cases e)
    · refine rows_lt (fun i x hx => ?_) (fun i => ?_) _
      · obtain ⟨j, _, ev, _, _, rfl⟩ := mem_rowE hx
        rfl
      · unfold rowE
        have hrg : (List.range s.length).Pairwise (· < ·) := List.pairwise_lt_range
        refine List.Pairwise.filterMap _ (fun a b hab x hx y hy => ?_) hrg
        have hget : ∀ {a : Nat} {x : Edg}, (match s[a]? with
            | some ev => if tgtV (gt (5 * i + a)) (rawN gs) < (rawN gs : Int) then some ((i : Int), ev, tgtV (gt (5 * i + a)) (rawN gs)) else none
            | none => none) = some x → s[a]? = some x.2.1 := by
          intro a x hx
          cases hs : s[a]? with
          | none => rw [hs] at hx; cases hx
          | some ev =>
            rw [hs] at hx
            by_cases c : tgtV (gt (5 * i + a)) (rawN gs) < (rawN gs : Int)
            · simp only [c, if_true, Option.some.injEq] at hx
              rw [← hx]
            · simp only [c, if_false] at hx
              cases hx
        have hx := hget hx
        have hy := hget hy
        obtain ⟨ha, ha2⟩ := List.getElem?_eq_some_iff.1 hx
        obtain ⟨hb, hb2⟩ := List.getElem?_eq_some_iff.1 hy
        rw [← ha2, ← hb2]
        exact List.pairwise_iff_getElem.1 hs a b ha hb hab
    · intro x hx
      obtain ⟨i, hi, hx⟩ := List.mem_flatMap.1 hx
      have hi := List.mem_range.1 hi
      obtain ⟨j, _, ev, he, ht, rfl⟩ := mem_rowE hx
      have := tgtV_nn (hg (5 * i + j)) n5
      refine ⟨⟨by simp only; omega, ?_⟩, ⟨this, ht⟩, List.mem_of_getElem? he⟩
      show (i : Int) < ((rawN gs : Nat) : Int)
      omega
/- Found. -/
theorem fvis_ok {es : List Edg} {s n : Int} (hes : ∀ x ∈ es, 0 ≤ x.2.2 ∧ x.2.2 < n) : ∀ {al out : List Int}, fOk n out → fOk n (fvis es s al out)
  | [], out, h => h
  | ev :: r, out, h => by
    simp only [fvis]
    split
    · rename_i c
      refine fvis_ok hes (fOk_app h ?_ c.2)
      rcases stp3_b (n := n) (es := es) (s := s) (ev := ev) hes with h1 | h1
      · rw [h1] at c; exact absurd c.1 (by decide)
      · exact h1
    · exact fvis_ok hes h
theorem fvis_pre {es : List Edg} {s : Int} : ∀ {al out : List Int}, out <+: fvis es s al out
  | [], out => List.prefix_refl _
  | ev :: r, out => by
    simp only [fvis]
    split
    · exact (List.prefix_append _ _).trans fvis_pre
    · exact fvis_pre
theorem fvis_has {es : List Edg} {s : Int} : ∀ {al out : List Int} {ev : Int}, ev ∈ al → 0 ≤ stp3 es s ev → stp3 es s ev ∈ fvis es s al out
  | e :: r, out, ev, h, c => by
    simp only [fvis]
    rcases List.mem_cons.1 h with rfl | h
    · by_cases c2 : stp3 es s ev ∈ out
      · rw [if_neg (fun h => h.2 c2)]
        exact fvis_pre.subset c2
      · rw [if_pos ⟨c, c2⟩]
        exact fvis_pre.subset (by simp)
    · exact fvis_has h c
theorem fndL_ok {es : List Edg} {al : List Int} {n : Nat} (hn : 1 ≤ n) (hes : ∀ x ∈ es, 0 ≤ x.2.2 ∧ x.2.2 < (n : Int)) {N : Nat} (hN : n < N) : ∀ (f i : Nat) (out : List Int), f + i = N → i ≤ out.length → fOk n out → (∀ s ∈ out.take i, ∀ ev ∈ al, 0 ≤ stp3 es s ev → stp3 es s ev ∈ out) →
    fOk n (fndL es al f i out) ∧ (∀ s ∈ fndL es al f i out, ∀ ev ∈ al, 0 ≤ stp3 es s ev → stp3 es s ev ∈ fndL es al f i out) ∧ out <+: fndL es al f i out
  | 0, i, out, hf, hi, h, _ => by
    rcases fOk_len h with h1 | h1
    · omega
    · rw [h1] at hi
      simp at hi
      omega
  | f + 1, i, out, hf, hi, h, hc => by
    simp only [fndL]
    cases hg : out[i]? with
    | none =>
      have : out.length ≤ i := by
        rcases Nat.lt_or_ge i out.length with h1 | h1
        · rw [List.getElem?_eq_getElem h1] at hg; cases hg
        · exact h1
      rw [List.take_of_length_le this] at hc
      exact ⟨h, hc, List.prefix_refl _⟩
    | some s =>
      have hlt : i < out.length := (List.getElem?_eq_some_iff.1 hg).1
      have hp := fvis_pre (es := es) (s := s) (al := al) (out := out)
      obtain ⟨r, hr⟩ := hp
      have htk : (fvis es s al out).take (i + 1) = out.take i ++ [s] := by
        rw [← hr, List.take_append_of_le_length (by omega), List.take_add_one, hg]; rfl
      obtain ⟨h1, h2, h3⟩ := fndL_ok hn hes hN f (i + 1) (fvis es s al out) (by omega) (by rw [← hr, List.length_append]; omega) (fvis_ok hes h) (fun t ht ev he c => by
        rw [htk, List.mem_append, List.mem_singleton] at ht
        rcases ht with ht | rfl
        · exact fvis_pre.subset (hc t ht ev he c)
        · exact fvis_has he c)
      exact ⟨h1, h2, fvis_pre.trans h3⟩
theorem found_ok {a : Aut} {n : Nat} (hst : a.states = n) (hn : 1 ≤ n ∧ n ≤ 4096) (hes : ∀ x ∈ a.edges, 0 ≤ x.2.2 ∧ x.2.2 < (n : Int)) :
    fOk n (foundR a) ∧ (∀ s ∈ foundR a, ∀ ev ∈ a.alpha, 0 ≤ stp3 a.edges s ev → stp3 a.edges s ev ∈ foundR a) ∧ [(0 : Int)] <+: foundR a :=
  fndL_ok hn.1 hes (N := 4097) (by omega) 4097 0 [0] rfl (by simp) ⟨by simp, fun x hx => by rw [List.mem_singleton] at hx; subst hx; constructor <;> omega⟩ (by simp)
theorem idxI_lt {t : Int} : ∀ {l : List Int} {i : Nat}, t ∈ l → (i : Int) ≤ idxI t l i ∧ idxI t l i < (i + l.length : Nat)
  | [], _, h => by simp at h
  | y :: r, i, h => by
    simp only [idxI]
    split
    · constructor
      · omega
      · simp only [List.length_cons]; omega
    · rename_i hne
      have hr : t ∈ r := by
        rcases List.mem_cons.1 h with rfl | h
        · simp at hne
        · exact h
      have := idxI_lt (i := i + 1) hr
      simp only [List.length_cons]
      constructor <;> omega
/-- What is canonical passes the check. -/
theorem can_ok {a : Aut} {n : Nat} (ha : autOk a) (hst : a.states = n) (hn : 1 ≤ n ∧ n ≤ 4096) : gAut (canR a (foundR a)) (foundR a).length ∧ (foundR a).length ≤ n := by
  obtain ⟨c1, c2, c3, c4⟩ := chk_parts ha.chk
  obtain ⟨_, eb, _⟩ := chkEds_sorted c4
  have hes : ∀ x ∈ a.edges, 0 ≤ x.2.2 ∧ x.2.2 < (n : Int) := fun x hx => by have := (eb x hx).2.1; rw [hst] at this; exact this
  obtain ⟨f1, f2, f3⟩ := found_ok hst hn hes
  have hal := checkSet_len (by decide) c1
  have hal : a.alpha.length ≤ 32 := by omega
  have hpw := (checkSet_sorted c1).1
  have hF : (foundR a).length ≤ n := by
    rcases fOk_len f1 with h | h
    · omega
    · rw [h]; simp
  generalize foundR a = F at *
  have hce := cEd_len (es := a.edges) (F := F) (al := a.alpha) (i := F.length) hal
  have hcm := cMk_len (F := F) (marked := a.marked) (i := F.length)
  refine ⟨⟨rfl, ⟨?_, ?_, ?_⟩, chkA_of c1 ?_ ?_ ?_⟩, hF⟩
  · show (cEd a.edges F a.alpha F.length).length ≤ 1000000
    omega
  · exact ha.al
  · show (cMk F a.marked F.length).length ≤ 1000000
    omega
  · show (0 : Int) ≤ (F.length : Int) ∧ (F.length : Int) ≤ 4096
    omega
  · show checkSet (F.length : Int) (cMk F a.marked F.length) none = 0
    unfold cMk
    refine checkSet_of ?_ (fun x hx => ?_) (fun y e => by cases e)
    · rw [List.pairwise_map]
      have : (List.range F.length).Pairwise (· < ·) := List.pairwise_lt_range
      exact (this.filter _).imp fun {a b} h => by omega
    · obtain ⟨i, hi, rfl⟩ := List.mem_map.1 hx
      have := List.mem_range.1 (List.mem_filter.1 hi).1
      omega
  · show chkEds a.alpha (F.length : Int) none (cEd a.edges F a.alpha F.length) = 0
    have hmem : ∀ {k : Nat} {x : Edg}, x ∈ (match F[k]? with
        | none => []
        | some s => a.alpha.filterMap (cOf a.edges F k s)) → ∃ s, F[k]? = some s ∧ x.1 = (k : Int) ∧ x.2.1 ∈ a.alpha ∧ 0 ≤ stp3 a.edges s x.2.1 ∧ x.2.2 = idxI (stp3 a.edges s x.2.1) F 0 := by
      intro k x hx
      cases hs : F[k]? with
      | none => rw [hs] at hx; cases hx
      | some s =>
        rw [hs] at hx
        obtain ⟨ev, he, hx⟩ := List.mem_filterMap.1 hx
        unfold cOf at hx
        by_cases c : 0 ≤ stp3 a.edges s ev
        · rw [if_pos c] at hx
          obtain rfl := Option.some.inj hx
          exact ⟨s, rfl, rfl, he, c, rfl⟩
        · rw [if_neg c] at hx; cases hx
    unfold cEd
    refine chkEds_of (rows_lt (fun i x hx => ?_) (fun i => ?_) _) (fun x hx => ?_) (fun y e => by cases e)
    · obtain ⟨_, _, h, _⟩ := hmem hx
      exact h
    · cases hs : F[i]? with
      | none => exact .nil
      | some s =>
        refine List.Pairwise.filterMap _ (fun p q hpq x hx y hy => ?_) hpw
        unfold cOf at hx hy
        by_cases cp : 0 ≤ stp3 a.edges s p
        · by_cases cq : 0 ≤ stp3 a.edges s q
          · rw [if_pos cp] at hx
            rw [if_pos cq] at hy
            obtain rfl := Option.some.inj hx
            obtain rfl := Option.some.inj hy
            exact hpq
          · rw [if_neg cq] at hy; cases hy
        · rw [if_neg cp] at hx; cases hx
    · obtain ⟨i, hi, hx⟩ := List.mem_flatMap.1 hx
      have hi := List.mem_range.1 hi
      obtain ⟨s, hs, h1, h2, h3, h4⟩ := hmem hx
      have h5 := f2 s (List.mem_of_getElem? hs) _ h2 h3
      have h6 := idxI_lt (i := 0) h5
      refine ⟨by rw [h1]; omega, ?_, h2⟩
      rw [h4]
      constructor
      · have := h6.1; omega
      · have := h6.2; omega
theorem mkA_ok {s : List Int} {gs gm : Int} {gt : Nat → Int} (hs : s.Pairwise (· < ·)) (hr : ∀ x ∈ s, 0 ≤ x ∧ x < 32) (hsl : s.length ≤ 5) (hg : ∀ j, 0 ≤ gt j ∧ gt j ≤ 255) :
    (autOk (rawA s gs gm gt) ∧ (foundR (rawA s gs gm gt)).length ≤ 4096) ∧ (∃ n, n ≤ 5 ∧ gAut (mkA s gs gm gt) n) ∧ (mkA s gs gm gt).alpha = s := by
  have hok := raw_ok (gs := gs) (gm := gm) hs hr hsl hg
  obtain ⟨n1, n5⟩ := rawN_b gs
  obtain ⟨h1, h2⟩ := can_ok hok (n := rawN gs) rfl ⟨n1, by omega⟩
  refine ⟨⟨hok, by omega⟩, ?_, ?_⟩
  · unfold mkA
    split
    · refine ⟨0, by omega, rfl, ⟨by simp, by simp only; omega, by simp⟩, chkA_of (checkSet_of hs hr (fun y e => by cases e)) ⟨by simp, by simp⟩ rfl rfl⟩
    · exact ⟨_, by omega, h1⟩
  · unfold mkA
    split <;> rfl
theorem evs_ok (b : Int) : (evsOf b).Pairwise (· < ·) ∧ (∀ x ∈ evsOf b, 0 ≤ x ∧ x < 32) ∧ (evsOf b).length ≤ 5 := by
  obtain ⟨h1, h2⟩ := rawM_ok b 5
  exact ⟨h1, fun x hx => by have := h2 x hx; omega, rawM_len b 5⟩
end Go.AI


/- Plain: Observer is what the law says. -/
namespace Go.AI
section
variable {S : Type} [DecidableEq S]
end
theorem clo_nil (es : List Edg) (p : Int → Bool) (n : Nat) : clo es p n [] = [] := by
  have : reachB es p n [] = [] := rlB_done (by simp) _
  unfold clo
  rw [this]
  refine List.eq_nil_iff_forall_not_mem.2 fun x hx => ?_
  have := (mem_sortedBelow.1 hx).2
  cases this
theorem nxt_nil (es : List Edg) (p : Int → Bool) (n : Nat) (ev : Int) : nxt es p n [] ev = [] := by
  unfold nxt
  have : tgtE es [] ev = [] := by simp [tgtE]
  rw [this, clo_nil]
theorem badM_ok {a : Aut} {y : PS} (h : badM a y.1 y.2 = true) : okX y = true := by
  unfold badM at h
  unfold okX
  cases hy : y.1 with
  | nil => rw [hy] at h; simp at h
  | cons x r => simp
def hX (y : PS) : Option PS := if okX y = true then some y else none
theorem hX_some {y z : PS} (h : hX y = some z) : z = y ∧ okX y = true := by
  unfold hX at h
  by_cases c : okX y = true
  · rw [if_pos c] at h; exact ⟨(Option.some.inj h).symm, c⟩
  · rw [if_neg c] at h; cases h
theorem okX_some {y : PS} (h : okX y = true) : someP y = true := by
  unfold okX at h
  unfold someP
  have := of_decide_eq_true h
  exact decide_eq_true (by omega)
theorem hX_find {a : Aut} (l : List (PS × List Int)) : (l.find? fun z => badM a z.1.1 z.1.2) = ((l.find? fun z => optB (fun y : PS => badM a y.1 y.2) (hX z.1)).bind fun z => (hX z.1).map fun y => (y, z.2)) := by
  have e : (fun z : PS × List Int => optB (fun y : PS => badM a y.1 y.2) (hX z.1)) = fun z => badM a z.1.1 z.1.2 := by
    funext z
    cases hz : hX z.1 with
    | none =>
      simp only [optB]
      cases hb : badM a z.1.1 z.1.2 with
      | false => rfl
      | true =>
        have := badM_ok hb
        unfold hX at hz
        rw [if_pos this] at hz
        cases hz
    | some y =>
      obtain ⟨rfl, _⟩ := hX_some hz
      rfl
  rw [e]
  cases hf : l.find? fun z => badM a z.1.1 z.1.2 with
  | none => rfl
  | some z =>
    have hb := List.find?_some hf
    have := badM_ok hb
    simp only [Option.bind_some, hX]
    rw [if_pos this]
    rfl
/-- The program's search for a pair that differs, and the law's. -/
theorem dif_mis (a : Aut) (on un A B : List Int) (n : Nat) (hn : n ≤ 5) (hA : A ∈ subs n) (hB : B ∈ subs n) : difR a on un n (badM a) A B = misR a on n A B := by
  unfold difR misR
  rw [low_un on un]
  generalize lowP on [] false = lp
  have hsi := stepP_in a.edges lp n
  have hVl := pairsV_len hn
  have hB0 : bOk (pairsV n) [((A, B), ([] : List Int))] := bOk_one (mem_pairsV.2 ⟨hA, hB⟩)
  have hnx : ∀ x : PS, okX x = false → ∀ ev, okX (stepP a.edges lp n x ev) = false := fun x hx ev => by
    have : x.1 = [] := by
      unfold okX at hx
      have := of_decide_eq_false hx
      exact List.eq_nil_of_length_eq_zero (by omega)
    unfold okX stepP
    rw [this, nxt_nil]
    rfl
  rw [bsr_find (V := pairsV n) (N := 4096) (fun x _ ev _ _ => hsi x ev) (by omega) 4096 0 _ rfl (by simp) hB0 (by simp)]
  rw [bsr_find (V := pairsV n) (N := 4096) (fun x _ ev _ _ => hsi x ev) (by omega) 4096 0 _ rfl (by simp) hB0 (by simp)]
  rw [hX_find]
  have hi := bfull_img (V := pairsV n) (nx := stepP a.edges lp n) (ok := someP) (evs := fun _ => keptR a on) (nx' := stepP a.edges lp n) (ok' := okX) (evs' := fun _ => keptR a on) (h := hX) (N := 4096)
    (fun x _ ev _ _ => hsi x ev)
    (fun x _ hx ev _ => by
      unfold hX at hx ⊢
      by_cases c : okX x = true
      · rw [if_pos c] at hx; cases hx
      · rw [if_neg]
        rw [hnx x (by simpa using c) ev]
        simp)
    (fun x _ y hy => ⟨rfl, fun ev => by
      obtain ⟨rfl, _⟩ := hX_some hy
      unfold hX
      by_cases c : okX (stepP a.edges lp n y ev) = true
      · rw [if_pos (okX_some c)]
      · rw [if_neg c]
        split <;> rfl⟩)
    (by omega) 4096 0 4096 [((A, B), [])] rfl (by simp) (Nat.le_refl _) hB0 (by simp)
  have hf := img_find hX (fun y => badM a y.1 y.2) (bfull (stepP a.edges lp n) someP (fun _ => keptR a on) 4096 0 [((A, B), [])])
  rw [hi] at hf
  refine Eq.trans hf.symm ?_
  by_cases c : okX (A, B) = true
  · have e : img hX [((A, B), ([] : List Int))] = [((A, B), [])] := by
      unfold img hX
      simp only [List.foldl_cons, List.foldl_nil, c, if_true]
      rfl
    have e5 : (img hX (List.take 0 [((A, B), ([] : List Int))])).length = 0 := rfl
    rw [e, e5]
  · have e : img hX [((A, B), ([] : List Int))] = [] := by
      unfold img hX
      simp only [List.foldl_cons, List.foldl_nil]
      rw [if_neg c]
    have e2 : bvis (stepP a.edges lp n) okX ((A, B), []) (keptR a on) [((A, B), [])] = [((A, B), [])] := by
      rw [bvis_filter]
      have : (keptR a on).filter (fun ev => okX (stepP a.edges lp n ((A, B), ([] : List Int)).1 ev)) = [] := List.filter_eq_nil_iff.2 fun ev _ => by
        rw [hnx (A, B) (by simpa using c) ev]
        simp
      rw [this]
      rfl
    have e3 : ∀ f, bfull (stepP a.edges lp n) okX (fun _ => keptR a on) (f + 1 + 1) 0 [((A, B), [])] = [((A, B), [])] := fun f => by
      have g0 : [((A, B), ([] : List Int))][0]? = some ((A, B), []) := rfl
      have g1 : [((A, B), ([] : List Int))][0 + 1]? = none := rfl
      rw [bfull, g0]
      simp only
      rw [e2, bfull, g1]
    have e3 := e3 4094
    have e5 : (img hX (List.take 0 [((A, B), ([] : List Int))])).length = 0 := rfl
    rw [e, e3, e5]
    have e4 : badM a A B = false := by
      cases hb : badM a A B with
      | false => rfl
      | true => exact absurd (badM_ok (y := (A, B)) hb) c
    simp only [List.find?_cons, e4, List.find?_nil]
    rfl
theorem find?_congr' {α : Type} {p q : α → Bool} : ∀ {l : List α}, (∀ x ∈ l, p x = q x) → l.find? p = l.find? q
  | [], _ => rfl
  | x :: r, h => by
    rw [List.find?_cons, List.find?_cons, h x (by simp), find?_congr' fun y hy => h y (by simp [hy])]
/-- The events out of a state. -/
theorem evO_eq {a : Aut} {n : Nat} (h : gAut a n) (on : List Int) (x : OS) (hx : x ∈ statesV n) : evO a.edges x = a.alpha.filter fun ev => okO (nxO a.edges on [] n x ev) := by
  have hpw := h.pw
  refine lt_ext ?_ ?_ fun ev => ?_
  · unfold evO
    rw [List.pairwise_map]
    have hq : (a.edges.filter fun e => e.1 == x.1).Pairwise ltE := hpw.filter _
    refine (List.Pairwise.imp_of_mem (fun {p q} hp hq h => ?_) hq)
    have h1 : p.1 = x.1 := by simpa using (List.mem_filter.1 hp).2
    have h2 : q.1 = x.1 := by simpa using (List.mem_filter.1 hq).2
    rcases h with h | h
    · omega
    · exact h.2
  · exact (checkSet_sorted (chk_parts h.c).1).1.filter _
  · unfold evO
    simp only [List.mem_map, List.mem_filter, beq_iff_eq]
    constructor
    · rintro ⟨e, ⟨he, h1⟩, rfl⟩
      have h2 := stp3_of hpw he
      rw [h1] at h2
      have := (h.to e he).1
      refine ⟨h.ev e he, ?_⟩
      show decide (0 ≤ stp3 a.edges x.1 e.2.1) = true
      rw [h2]
      exact decide_eq_true this
    · rintro ⟨he, h1⟩
      have h1 : 0 ≤ stp3 a.edges x.1 ev := of_decide_eq_true h1
      by_cases c : ∃ e ∈ a.edges, e.1 = x.1 ∧ e.2.1 = ev
      · obtain ⟨e, he, h2, h3⟩ := c
        exact ⟨e, ⟨he, h2⟩, h3⟩
      · rw [stp3_no fun e he h => c ⟨e, he, h⟩] at h1
        exact absurd h1 (by decide)
def obV (a : Aut) (on : List Int) (n : Nat) : Option (OS × List Int) → List Int × List Int × Bool
  | none => ([], [], true)
  | some z => (z.2, (match misR a on n z.1.2 (clo a.edges (lowP on [] false) n [z.1.1]) with | some t => t.2 | none => []), false)
theorem obL_find (a : Aut) (on : List Int) (n : Nat) : ∀ l, obL a on n l = obV a on n (l.find? fun z => (misR a on n z.1.2 (clo a.edges (lowP on [] false) n [z.1.1])).isSome)
  | [] => rfl
  | z :: r => by
    simp only [obL, List.find?_cons]
    cases hm : misR a on n z.1.2 (clo a.edges (lowP on [] false) n [z.1.1]) with
    | none =>
      simp only [Option.isSome_none]
      exact obL_find a on n r
    | some t => simp only [Option.isSome_some, obV, hm]
theorem prs_eq {a : Aut} {n : Nat} (h : gAut a n) (hn : n ≤ 5) (hn0 : n ≠ 0) (on : List Int) : bfull (nxO a.edges on [] n) (fun _ => true) (evO a.edges) 4096 0 [((0, clo a.edges (lowP on [] false) n [0]), [])] = prsR a on n := by
  unfold prsR
  rw [if_neg hn0]
  symm
  exact bfull_filter (V := statesV n) (fun x hx ev he => nxO_in h on x hx a.alpha ev he) (fun x hx => evO_eq h on x hx) _ _ _ (bOk_one (mem_statesV.2 ⟨by simp only; omega, sorted_subs _ _⟩))
theorem evO_in {a : Aut} {n : Nat} (h : gAut a n) (on : List Int) : ∀ x ∈ statesV n, ∀ ev ∈ evO a.edges x, (fun _ : OS => true) (nxO a.edges on [] n x ev) = true → nxO a.edges on [] n x ev ∈ statesV n := fun x hx ev he _ => by
  rw [evO_eq h on x hx] at he
  obtain ⟨h1, h2⟩ := List.mem_filter.1 he
  exact nxO_in h on x hx a.alpha ev h1 h2
/-- OBSERVER IS WHAT THE LAW SAYS. -/
theorem obs_eq {a : Aut} {n : Nat} (h : gAut a n) (hn : n ≤ 5) (on : List Int) : obsO a on [] n (obsR a on [] n) = obL a on n (prsR a on n) := by
  by_cases hn0 : n = 0
  · unfold obsR prsR
    rw [if_pos hn0, if_pos hn0]
    rfl
  have hVl := statesV_len hn
  have hB0 : bOk (statesV n) [(((0 : Int), clo a.edges (lowP on [] false) n [0]), ([] : List Int))] := bOk_one (mem_statesV.2 ⟨by simp only; omega, sorted_subs _ _⟩)
  have hdm : ∀ z ∈ prsR a on n, refR a on [] n z.1.2 z.1.1 = misR a on n z.1.2 (clo a.edges (lowP on [] false) n [z.1.1]) := fun z hz => by
    have := (mem_statesV.1 ((prs_bOk h on).el z hz)).2
    exact dif_mis a on [] _ _ n hn this (sorted_subs _ _)
  rw [obL_find]
  unfold obsR
  rw [if_neg hn0, bsr_find (V := statesV n) (N := 4096) (evO_in h on) (by omega) 4096 0 _ rfl (by simp) hB0 (by simp), prs_eq h hn hn0 on]
  have e : (prsR a on n).find? (fun z => badO a on [] n z.1) = (prsR a on n).find? fun z => (misR a on n z.1.2 (clo a.edges (lowP on [] false) n [z.1.1])).isSome := by
    refine find?_congr' fun z hz => ?_
    show (refR a on [] n z.1.2 z.1.1).isSome = _
    rw [hdm z hz]
  rw [e]
  cases hf : (prsR a on n).find? fun z => (misR a on n z.1.2 (clo a.edges (lowP on [] false) n [z.1.1])).isSome with
  | none => rfl
  | some z =>
    show (z.2, (match refR a on [] n z.1.2 z.1.1 with | some t => t.2 | none => []), false) = _
    rw [hdm z (List.mem_of_find?_eq_some hf)]
    rfl
end Go.AI


/- Plain: what refutes is accepted. -/
namespace Go.AI
end Go.AI


/- Law Observer. -/
namespace Go.AI
open Go.Proofs
set_option maxRecDepth 20000
abbrev grOkB (gs : Int) (gt : Nat → Int) : Prop := 0 ≤ gs ∧ ∀ j, 0 ≤ gt j ∧ gt j ≤ 255
theorem opE_good {a : Aut} {on un : List Int} (h : chkA a = 0) (h1 : checkSet 32 on none = 0) (h2 : checkSet 32 un none = 0) : opE a on un = 0 := by
  unfold opE
  rw [if_neg (fun c => c h), if_neg (fun c => c h1), h2]
theorem evs_chk (b : Int) : checkSet 32 (evsOf b) none = 0 := checkSet_of (evs_ok b).1 (evs_ok b).2.1 (fun y e => by cases e)
end Go.AI


/- Sets and graphs as arguments: data. -/
namespace Go.Proofs.YtmhllkmceipdcaaGreatDoor
open Go.ChangeShapes Go.WideShapes Go.ChangeAt Go.RowKit Go.Deep Go.WideElems
set_option maxRecDepth 100000
section
variable {H : Type} {enc : TypeId × Value → H} {P : Program} {W : World}
theorem okWide_array {r : Reach} {b0 n : Nat} {t e : TypeId} {v : Value} (ht : P.underlying t = some (.array n e)) (h : Value.okWide P W r b0 t v) : ∃ cs, v = .agg cs := by
  simp only [Value.okWide, ht] at h
  obtain ⟨cs, rfl, _⟩ := h
  exact ⟨cs, rfl⟩
theorem opn_arrayG {t e : TypeId} {m z : Nat} {R : List AI.I → Prop} (ht : P.underlying t = some (.array m e)) (hc : P.cellsOf e = z) (hct : P.cellsOf t = m * z) (he : Opn enc P W e R) :
    Opn enc P W t fun is => ∃ xs : List (List AI.I), xs.length = m ∧ is = xs.flatten ∧ ∀ x ∈ xs, R x := by
  intro n cs x h
  obtain ⟨xs, f, rfl, rfl, hl, hlen, hx⟩ := DataW.trod_array ht h
  rw [hct] at hl
  have build : ∀ k, k ≤ m → ∃ ys : List (List AI.I), ys.length = k ∧ AI.RepL (KW W) (cs.take (k * z)) ys.flatten ∧ ∀ y ∈ ys, R y := by
    intro k
    induction k with
    | zero => intro _; exact ⟨[], rfl, by rw [Nat.zero_mul, List.take_zero]; exact .nil, by simp⟩
    | succ k ih =>
      intro hk
      obtain ⟨ys, h1, h2, h3⟩ := ih (by omega)
      have h0 := hx k (by omega)
      rw [hc, List.getElem?_eq_getElem (by omega)] at h0
      obtain ⟨is, hr, hR⟩ := he _ _ _ h0
      refine ⟨ys ++ [is], by simp [h1], ?_, fun y hy => ?_⟩
      · rw [Nat.succ_mul, List.take_add, List.flatten_append]
        simpa using repL_app h2 hr
      · rcases List.mem_append.1 hy with hy | hy
        · exact h3 y hy
        · rw [List.mem_singleton] at hy
          subst hy
          exact hR
  obtain ⟨ys, h1, h2, h3⟩ := build m (Nat.le_refl _)
  rw [List.take_of_length_le (by omega)] at h2
  exact ⟨_, h2, ys, h1, rfl, h3⟩
theorem flat_u8 : ∀ {xs : List (List AI.I)}, (∀ x ∈ xs, ∃ zs : List Int, zs.length = 5 ∧ x = zs.map (fun z => AI.I.v (.int .u8 z)) ∧ ∀ z ∈ zs, (Lit.int .u8 z).wf = true) → ∃ L : List Int, L.length = 5 * xs.length ∧ xs.flatten = L.map (fun z => AI.I.v (.int .u8 z)) ∧ ∀ z ∈ L, 0 ≤ z ∧ z ≤ 255
  | [], _ => ⟨[], rfl, rfl, by simp⟩
  | x :: r, h => by
    obtain ⟨zs, h1, h2, h3⟩ := h x (by simp)
    obtain ⟨L, g1, g2, g3⟩ := flat_u8 (xs := r) fun y hy => h y (by simp [hy])
    refine ⟨zs ++ L, by rw [List.length_append, h1, g1, List.length_cons]; omega, by rw [List.flatten_cons, h2, g2, List.map_append], fun z hz => ?_⟩
    rcases List.mem_append.1 hz with hz | hz
    · exact wf_u8 (h3 z hz)
    · exact g3 z hz
end
section
variable {H : Type} {enc : TypeId × Value → H} {W : World}
theorem open_set2 {r : Reach} {b0 : Nat} {v : Value} {d : DataW H} {p : List MemPlace} (hv : Value.okWide Tryz.prog W r b0 45 v) (h : DataW.Trod enc Tryz.prog W 0 (fun _ => true) true 45 v d p) :
    ∃ b : Int × Int, True ∧ ∀ ρ sh, AI.RepD (KW W) ρ sh v (.agg [AI.u8D b.1, AI.u8D b.2]) := by
  obtain ⟨cs, rfl⟩ := okWide_array Tryz.underlying45 hv
  obtain ⟨n, hn⟩ := h
  obtain ⟨is, hr, zs, hz, rfl, _⟩ := opn_array Tryz.underlying45 Tryz.underlying22 (by kernel_rfl) (by kernel_rfl) n _ _ hn
  match zs, hz with
  | [x, y], _ =>
    refine ⟨(x, y), trivial, fun ρ sh => ?_⟩
    have := AI.RepD.agg (AI.RepDL.ofL (ρ := ρ) (sh := sh) hr)
    simpa [Value.cells] using this
/-- A graph, by value. -/
theorem open_graph {r : Reach} {b0 : Nat} {v : Value} {d : DataW H} {p : List MemPlace} (hv : Value.okWide Tryz.prog W r b0 27 v) (h : DataW.Trod enc Tryz.prog W 0 (fun _ => true) true 27 v d p) :
    ∃ g : Int × Int × (Nat → Int), AI.grOkB g.1 g.2.2 ∧ ∀ ρ sh, AI.RepD (KW W) ρ sh v (.agg (AI.grC g.1 g.2.1 g.2.2)) := by
  obtain ⟨cs, rfl, _⟩ := okWide_struct Tryz.underlying27 hv
  obtain ⟨n, hn⟩ := h
  obtain ⟨is, hr, a, b, c, rfl, ⟨x, rfl, hx⟩, ⟨y, rfl, _⟩, ⟨xs, h5, rfl, hxs⟩⟩ := opn_struct3 Tryz.underlying27 (z0 := 1) (z1 := 1) (z2 := 25) (by kernel_rfl) (by kernel_rfl) (by kernel_rfl) (by kernel_rfl) rfl rfl rfl
    (opn_int Tryz.underlying5) (opn_int Tryz.underlying5) (opn_arrayG Tryz.underlying25 (z := 5) (by kernel_rfl) (by kernel_rfl) (opn_array Tryz.underlying24 Tryz.underlying5 (by kernel_rfl) (by kernel_rfl))) n _ _ hn
  obtain ⟨L, g1, g2, g3⟩ := flat_u8 hxs
  rw [h5] at g1
  rw [g2] at hr
  refine ⟨(x, y, fun j => L.getD j 0), ⟨(wf_u8 hx).1, fun j => ?_⟩, fun ρ sh => ?_⟩
  · show 0 ≤ L.getD j 0 ∧ L.getD j 0 ≤ 255
    rw [List.getD_eq_getElem?_getD]
    cases hj : L[j]? with
    | none => exact ⟨by decide, by decide⟩
    | some z => exact g3 z (List.mem_of_getElem? hj)
  · have := AI.RepD.agg (AI.RepDL.ofL (ρ := ρ) (sh := sh) hr)
    match L, g1 with
    | [a0, a1, a2, a3, a4, a5, a6, a7, a8, a9, a10, a11, a12, a13, a14, a15, a16, a17, a18, a19, a20, a21, a22, a23, a24], _ => exact (by simpa [Value.cells] using this : AI.RepD (KW W) ρ sh (.agg cs) (.agg [AI.u8D x, AI.u8D y, AI.u8D a0, AI.u8D a1, AI.u8D a2, AI.u8D a3, AI.u8D a4, AI.u8D a5, AI.u8D a6, AI.u8D a7, AI.u8D a8, AI.u8D a9, AI.u8D a10, AI.u8D a11, AI.u8D a12, AI.u8D a13, AI.u8D a14, AI.u8D a15, AI.u8D a16, AI.u8D a17, AI.u8D a18, AI.u8D a19, AI.u8D a20, AI.u8D a21, AI.u8D a22, AI.u8D a23, AI.u8D a24]))
end
end Go.Proofs.YtmhllkmceipdcaaGreatDoor


/- Plain: Consistent is what the law says. -/
namespace Go.AI
end Go.AI


/- Law Consistent. -/
namespace Go.AI
open Go.Proofs
set_option maxRecDepth 20000
end Go.AI


/- automaton.out. -/
namespace Go.AI
open Go.Proofs
set_option maxRecDepth 20000
theorem cmp182 (O : List Heap) (e : Edg) (s : Int) : ASpec Tryz.prog 104 [edgD e, ii s] O (ii (IntKind.i64.wrap (e.1 - s))) [] O := by
  obtain ⟨a, b, c⟩ := e
  refine aspec_intro Tk Tryz.func104 rfl Tryz.call104 Tryz.ntmps104 (Nat.le_of_ble_eq_true rfl) fun E => ?_
  refine g_run Tk Tryz.func104 ?_
  refine g_ret Tk (r := ii (IntKind.i64.wrap (a - s))) rfl rfl rfl trivial rfl rfl ?_
  rfl
theorem cmp183 (O : List Heap) (e : Edg) (s : Int) : ASpec Tryz.prog 105 [edgD e, ii s] O (ii (IntKind.i64.wrap (e.1 - s))) [] O := by
  obtain ⟨a, b, c⟩ := e
  refine aspec_intro Tk Tryz.func105 rfl Tryz.call105 Tryz.ntmps105 (Nat.le_of_ble_eq_true rfl) fun E => ?_
  refine g_run Tk Tryz.func105 ?_
  refine g_ret Tk (r := ii (IntKind.i64.wrap (a - s))) rfl rfl rfl trivial rfl rfl ?_
  rfl
theorem bsf181 (O : List Heap) (l : List Edg) (s : Int) (f : Nat) (hf : ∀ e O, ASpec Tryz.prog f [edgD e, ii s] O (ii (IntKind.i64.wrap (e.1 - s))) [] O) (hl : l.length ≤ max63) (hs : sortedF l) (hb : ∀ e ∈ l, 0 ≤ e.1 ∧ e.1 ≤ 5000) (hsb : 0 ≤ s ∧ s ≤ 5000) :
    ASpec Tryz.prog 103 [edgs l, ii s, .fn (.func f) [] []] O (.tup [ii (lowE l s : Nat), bb (fndE l s)]) [] O := by
  have hw : ∀ e ∈ l, IntKind.i64.wrap (e.1 - s) = e.1 - s := fun e he => by
    have := hb e he
    exact w64 (by omega) (by omega)
  have hsort : ∀ i j (hi : i < l.length) (hj : j < l.length), i ≤ j → l[i].1 ≤ l[j].1 := fun i j hi hj h => by
    rcases Nat.lt_or_eq_of_le h with h | h
    · exact List.pairwise_iff_getElem.1 hs i j hi hj h
    · subst h; exact Int.le_refl _
  refine aspec_intro Tk Tryz.func103 rfl Tryz.call103 Tryz.ntmps103 (Nat.le_of_ble_eq_true rfl) fun E => ?_
  refine g_run Tk Tryz.func103 ?_
  refine g_loop ?_
  refine rch_loop2 (fun p : Nat × Nat => [(0, edgs l), (1, ii s), (2, .fn (.func f) [] []), (8, ii l.length), (9, ii p.1), (10, ii p.2)]) (fun _ => []) (fun _ => O) 49
    (fun p => p.1 ≤ p.2 ∧ p.2 ≤ l.length ∧ (∀ k (h : k < l.length), k < p.1 → l[k].1 < s) ∧ ∀ k (h : k < l.length), p.2 ≤ k → s ≤ l[k].1) (fun p => p.2 - p.1) (0, l.length)
    ⟨Nat.zero_le _, Nat.le_refl _, fun k h h' => by simp at h', fun k h h' => by simp at h'; omega⟩ ⟨rfl, rfl, rfl, rfl, rfl, rfl, trivial⟩ rfl trivial rfl rfl ?_
  rintro ⟨i, j⟩ ⟨hij, hj, hlo, hhi⟩ ih
  simp only at hij hj hlo hhi
  have hlj : j ≤ max63 := Nat.le_trans hj hl
  refine g_run Tk Tryz.func103 ?_
  first | refine g_cnd Tk Tryz.func103 rfl (fun h1 => ?_) (fun h1 => ?_) | refine g_know Tk Tryz.func103 rfl (fun h1 => ?_) (fun h1 => ?_) | refine s_know Tk (fun h1 => ?_) (fun h1 => ?_)
  · have h1 : i < j := by simpa using h1
    have hm := mid64 (Nat.le_trans hij hlj) hlj
    have hmj : (i + j) / 2 < j := by omega
    have hml : (i + j) / 2 < l.length := by omega
    have ge : (l.map edgI)[((((i + j) / 2 : Nat) : Int)).toNat]? = some (edgI l[(i + j) / 2]) := get_mapZ hml
    have hwm := hw _ (List.getElem_mem hml)
    have hfm := hf l[(i + j) / 2]
    generalize he : l[(i + j) / 2] = e at *
    first | refine g_need Tk Tryz.func103 (by simp [IntKind.bits]) ?_ | refine s_need Tk (by simp [IntKind.bits]) ?_
    first | refine g_need Tk Tryz.func103 (by rw [hm]; exact ⟨by omega, by show (((i + j) / 2 : Nat) : Int) < (l.length : Int); omega⟩) ?_ | refine s_need Tk (by rw [hm]; exact ⟨by omega, by show (((i + j) / 2 : Nat) : Int) < (l.length : Int); omega⟩) ?_
    first | refine g_elem Tk Tryz.func103 (by rw [hm]; exact ge) ?_ | refine s_elem Tk (by rw [hm]; exact ge) ?_
    first | refine g_call Tk Tryz.func103 (hfm _) rfl rfl rfl rfl rfl ?_ | refine s_callq Tk (fun _ => hfm _) rfl rfl rfl ?_
    first | refine g_cnd Tk Tryz.func103 rfl (fun h2 => ?_) (fun h2 => ?_) | refine g_know Tk Tryz.func103 rfl (fun h2 => ?_) (fun h2 => ?_) | refine s_know Tk (fun h2 => ?_) (fun h2 => ?_)
    · have h2 : IntKind.i64.wrap (e.1 - s) < 0 := of_decide_eq_true h2
      rw [hwm] at h2
      refine g_loop ?_
      refine ih ((i + j) / 2 + 1, j) _ _ ⟨by show (i + j) / 2 + 1 ≤ j; omega, hj, fun k h h' => ?_, hhi⟩ (by simp only; omega) ⟨rfl, rfl, rfl, rfl, ?_, rfl, trivial⟩ rfl trivial rfl rfl
      · have h' : k < (i + j) / 2 + 1 := h'
        have := hsort k ((i + j) / 2) h hml (by omega)
        rw [he] at this
        omega
      · show D.i (.v (.int .i64 _)) = _
        rw [hm]
        exact congrArg ii (wsucc (n := j) (by omega) hlj)
    · have h2 : ¬ IntKind.i64.wrap (e.1 - s) < 0 := of_decide_eq_false h2
      rw [hwm] at h2
      refine g_loop ?_
      refine ih (i, (i + j) / 2) _ _ ⟨by show i ≤ (i + j) / 2; omega, by show (i + j) / 2 ≤ l.length; omega, hlo, fun k h h' => ?_⟩ (by simp only; omega) ⟨rfl, rfl, rfl, rfl, rfl, ?_, trivial⟩ rfl trivial rfl rfl
      · have h' : (i + j) / 2 ≤ k := h'
        have := hsort ((i + j) / 2) k hml h h'
        rw [he] at this
        omega
      · show D.i (.v (.int .i64 _)) = _
        rw [hm]
  · have h1 : j ≤ i := by simpa using h1
    have hij : i = j := by omega
    subst hij
    have hlow : lowE l s = i := lowE_eq hj hlo hhi
    have hfd : fndE l s = match l[i]? with | some e => e.1 - s == 0 | none => false := by unfold fndE; rw [hlow]; rfl
    rw [hlow, hfd]
    first | refine g_cnd Tk Tryz.func103 rfl (fun h2 => ?_) (fun h2 => ?_) | refine g_know Tk Tryz.func103 rfl (fun h2 => ?_) (fun h2 => ?_) | refine s_know Tk (fun h2 => ?_) (fun h2 => ?_)
    · have h2 : i < l.length := by simpa using h2
      have ge : (l.map edgI)[(i : Int).toNat]? = some (edgI l[i]) := get_mapZ h2
      have hwm := hw _ (List.getElem_mem h2)
      have hfm := hf l[i]
      rw [List.getElem?_eq_getElem h2]
      generalize l[i] = e at *
      first | refine g_need Tk Tryz.func103 (by exact ⟨by omega, by show (i : Int) < (l.length : Int); omega⟩) ?_ | refine s_need Tk (by exact ⟨by omega, by show (i : Int) < (l.length : Int); omega⟩) ?_
      first | refine g_elem Tk Tryz.func103 (ge) ?_ | refine s_elem Tk (ge) ?_
      first | refine g_call Tk Tryz.func103 (hfm _) rfl rfl rfl rfl rfl ?_ | refine s_callq Tk (fun _ => hfm _) rfl rfl rfl ?_
      refine g_ret Tk (r := .tup [ii (i : Nat), bb (IntKind.i64.wrap (e.1 - s) == 0)]) rfl rfl rfl trivial rfl rfl ?_
      rw [hwm]
    · have h2 : l.length ≤ i := by simpa using h2
      rw [List.getElem?_eq_none h2]
      refine g_ret Tk (r := .tup [ii (i : Nat), bb false]) rfl rfl rfl trivial rfl rfl ?_
      rfl
theorem out163 (O : List Heap) (a : Aut) (s : Int) (hl : a.edges.length ≤ max63) (hs : sortedF a.edges) (hb : ∀ e ∈ a.edges, 0 ≤ e.1 ∧ e.1 ≤ 5000) (hsb : 0 ≤ s ∧ s ≤ 4999) : ASpec Tryz.prog 77 [autD a, ii s] O (edgs (outR a.edges s)) [] O := by
  obtain ⟨al, n, mk, es⟩ := a
  simp only at hl hs hb ⊢
  have h1 := fun O => bsf181 O es s 104 (fun e O => cmp182 O e s) hl hs hb (by omega)
  have hw : IntKind.i64.wrap (s + 1) = s + 1 := w64 (by omega) (by omega)
  have h2 : ∀ O, ASpec Tryz.prog 103 [edgs es, ii (IntKind.i64.wrap (s + 1)), .fn (.func 105) [] []] O (.tup [ii (lowE es (s + 1) : Nat), bb (fndE es (s + 1))]) [] O := fun O => by
    rw [hw]
    exact bsf181 O es (s + 1) 105 (fun e O => cmp183 O e (s + 1)) hl hs hb (by omega)
  have hle := lowE_mono hs (show s ≤ s + 1 by omega)
  have hle2 := lowE_le es (s + 1)
  have hlen := outR_len es s
  have ho : outR es s = (es.take (lowE es (s + 1))).drop (lowE es s) := rfl
  have hres : edgs (outR es s) = .i (.sl 3 (((lowE es (s + 1) : Nat) : Int).toNat - ((lowE es s : Nat) : Int).toNat) (((es.map edgI).take ((lowE es (s + 1) : Nat) : Int).toNat).drop ((lowE es s : Nat) : Int).toNat)) := by
    unfold edgs
    rw [hlen]
    unfold outR
    rw [List.map_drop, List.map_take]
    rfl
  rw [hres]
  generalize lowE es s = p at *
  generalize lowE es (s + 1) = q at *
  refine aspec_intro Tk Tryz.func77 rfl Tryz.call77 Tryz.ntmps77 (Nat.le_of_ble_eq_true rfl) fun E => ?_
  refine g_run Tk Tryz.func77 ?_
  first | refine g_call Tk Tryz.func77 (h1 _) rfl rfl rfl rfl rfl ?_ | refine s_callq Tk (fun _ => h1 _) rfl rfl rfl ?_
  first | refine g_call Tk Tryz.func77 (h2 _) rfl rfl rfl rfl rfl ?_ | refine s_callq Tk (fun _ => h2 _) rfl rfl rfl ?_
  first | refine g_need Tk Tryz.func77 (by exact ⟨by omega, by omega, by show ((q : Nat) : Int) ≤ (es.length : Int); omega⟩) ?_ | refine s_need Tk (by exact ⟨by omega, by omega, by show ((q : Nat) : Int) ≤ (es.length : Int); omega⟩) ?_
  refine g_ret Tk (r := .i (.sl 3 (((q : Nat) : Int).toNat - ((p : Nat) : Int).toNat) (((es.map edgI).take ((q : Nat) : Int).toNat).drop ((p : Nat) : Int).toNat))) rfl rfl rfl trivial rfl rfl ?_
  rfl
end Go.AI


/- automaton.Words. -/
namespace Go.AI
open Go.Proofs
set_option maxRecDepth 20000
abbrev WS := List Int × Int
abbrev wsI (z : WS) : List I := [intsI z.1, vi z.2]
abbrev owss (l : List WS) : Ob := .arr 116 2 l.length (l.map wsI) true
def wvis (w : List Int) (row : List Edg) (all : List WS) : List WS := all ++ row.map fun e => (w ++ [e.2.1], e.2.2)
def wrdL (es : List Edg) (most : Nat) : Nat → Nat → List WS → List WS
  | 0, _, all => all
  | f + 1, i, all => match all[i]? with
    | none => all
    | some x => if x.1.length = most then all else wrdL es most f (i + 1) (wvis x.1 (outR es x.2) all)
theorem wrdL_pre (es : List Edg) (most : Nat) : ∀ f i all, all <+: wrdL es most f i all
  | 0, _, all => List.prefix_refl _
  | f + 1, i, all => by
    simp only [wrdL]
    split
    · exact List.prefix_refl _
    · split
      · exact List.prefix_refl _
      · exact (List.prefix_append _ _).trans (wrdL_pre es most f (i + 1) _)
def wrdR (a : Aut) (n : Nat) (most : Nat) : List WS := if n = 0 then [] else wrdL a.edges most 1026 0 [([], 0)]
set_option maxHeartbeats 8000000 in
theorem words36 (O : List Heap) (a : Aut) (n : Nat) (h : gAut a n) (hn : n ≤ 12) (hlim : (wrdR a n 3).length ≤ 1024) (hst2 : ∀ z ∈ wrdR a n 3, 0 ≤ z.2 ∧ z.2 < (n : Int)) (hwl : ∀ z ∈ wrdR a n 3, z.1.length ≤ 4096) :
    ASpec Tryz.prog 36 [autD a, ii 3, bb false] O (.tup [.i (intssI ((wrdR a n 3).map (·.1))), ii 0]) [] O := by
  have hck : ∀ O, ASpec Tryz.prog 76 [autD a] O (ii 0) [] O := fun O => by
    have := check116 O a (by have := h.sm.ed; simp only [max63]; omega) (by have := h.sm.al; simp only [max63]; omega) (by have := h.sm.mkd; simp only [max63]; omega)
    rwa [h.c] at this
  have hout := fun O s (hs : 0 ≤ s ∧ s ≤ 4999) => out163 O a s (by have := h.sm.ed; simp only [max63]; omega) (sortedF_of h.pw) (fun e he => by have := h.fr e he; omega) hs
  have hst := h.st
  have hed := h.sm.ed
  have hol : ∀ s, (outR a.edges s).length ≤ 1000000 := fun s => by
    unfold outR
    rw [List.length_drop, List.length_take]
    omega
  unfold wrdR at *
  refine aspec_stop [20, 200098] Tk Tryz.func36 rfl Tryz.call36 Tryz.ntmps36 (Nat.le_of_ble_eq_true rfl) fun E => ?_
  refine g_run Tk Tryz.func36 ?_
  first | refine g_call Tk Tryz.func36 (hck _) rfl rfl rfl rfl rfl ?_ | refine s_callq Tk (fun _ => hck _) rfl rfl rfl ?_
  repeat (first | refine gcT Tk Tryz.func36 rfl ?_ | refine gkT Tk Tryz.func36 rfl ?_ | refine skT Tk ?_ | refine gcF Tk Tryz.func36 rfl ?_ | refine gkF Tk Tryz.func36 rfl ?_ | refine skF Tk ?_)
  first | refine g_cnd Tk Tryz.func36 rfl (fun c2 => ?_) (fun c2 => ?_) | refine g_know Tk Tryz.func36 rfl (fun c2 => ?_) (fun c2 => ?_) | refine s_know Tk (fun c2 => ?_) (fun c2 => ?_)
  · have c2 : a.states = 0 := beqT c2
    have hn0 : n = 0 := by omega
    rw [if_pos hn0]
    refine g_ret_co Tk (r := .tup [.i (.v (.slice none 0 0)), ii 0]) rfl rfl rfl trivial rfl rfl ?_
    repeat' (first | refine coD_tup ?_ | refine coD_agg ?_ | refine coD_i ?_ | refine CoDL.cons ?_ ?_ | exact CoDL.nil | exact coI_nil | refine coI_sl ?_ | refine CoLL.cons ?_ ?_ | exact CoLL.nil | refine CoL.cons ?_ ?_ | exact CoL.nil | exact CoI.refl _ | exact CoL.refl _ | exact CoLL.refl _ | exact CoDL.refl _ | exact CoD.refl _)
  have c2 : a.states ≠ 0 := beqF c2
  have hn0 : n ≠ 0 := by omega
  simp only [if_neg hn0] at hlim hst2 hwl ⊢
  generalize hK : wrdL a.edges 3 1026 0 [([], 0)] = KK at *
  refine g_loop ?_
  refine rch_wk (wk_ren 31 73 rfl rfl rfl) ?_
  refine rch_wk (wk_arrco 73 (ys := [wsI ([], 0)]) rfl rfl rfl (by simp; rfl) fun K vs h => ?_) ?_
  · have h : RepL K vs [.v (.slice none 0 0), vi 0] := h
    show RepL K vs [.sl 1 0 [], vi 0]
    cases h with
    | cons h1 h => cases h with
      | cons h2 h =>
        cases h
        cases h1
        exact .cons .nil (.cons h2 .nil)
  apply join_p (P := True) (s6 := { σ := [(2, bb false), (3, .own 0 3 0 0), (9, .osl 0 73)], S := [(3, .box (autC a)), (73, owss KK)] :: O, n := 102 })
  · intro J
    refine rch_loop2 (fun x : Nat × Nat × List WS => [(1, ii 3), (2, bb false), (3, .own 0 3 0 0), (9, .osl 0 73), (10, ii x.1)]) (fun x => [(3, .box (autC a)), (73, owss x.2.2)]) (fun _ => O) 102
      (fun x => x.1 ≤ x.2.2.length ∧ x.2.1 + x.1 = 1026 ∧ wrdL a.edges 3 x.2.1 x.1 x.2.2 = KK) (fun x => x.2.1) (0, 1026, [([], 0)]) ⟨Nat.zero_le _, rfl, hK⟩ ⟨rfl, rfl, rfl, rfl, rfl, trivial⟩ rfl ⟨rfl, rfl, trivial⟩ rfl rfl ?_
    rintro ⟨i, f, all⟩ ⟨hi, hf, hno⟩ ih
    simp only at hi hf hno
    have hpre := wrdL_pre a.edges 3 f i all
    rw [hno] at hpre
    have hle := hpre.length_le
    obtain ⟨f, rfl⟩ : ∃ f', f = f' + 1 := ⟨f - 1, by omega⟩
    refine g_run Tk Tryz.func36 ?_
    first | refine g_cnd Tk Tryz.func36 rfl (fun g1 => ?_) (fun g1 => ?_) | refine g_know Tk Tryz.func36 rfl (fun g1 => ?_) (fun g1 => ?_) | refine s_know Tk (fun g1 => ?_) (fun g1 => ?_)
    · have h1 : i < all.length := by simpa using g1
      clear g1
      have hgi : all[i]? = some all[i] := List.getElem?_eq_getElem h1
      have gl : (all.map wsI)[(i : Int).toNat]? = some (wsI all[i]) := get_mapZ h1
      have hin := hst2 _ (hpre.subset (List.getElem_mem h1))
      have hwn := hwl _ (hpre.subset (List.getElem_mem h1))
      simp only [wrdL, hgi] at hno
      generalize all[i] = z at *
      obtain ⟨w, s⟩ := z
      simp only at hno hin hwn
      first | refine g_need Tk Tryz.func36 (by exact ⟨by omega, by show (i : Int) < (all.length : Int); omega⟩) ?_ | refine s_need Tk (by exact ⟨by omega, by show (i : Int) < (all.length : Int); omega⟩) ?_
      first | refine g_elem Tk Tryz.func36 (gl) ?_ | refine s_elem Tk (gl) ?_
      first | refine g_cnd Tk Tryz.func36 rfl (fun c3 => ?_) (fun c3 => ?_) | refine g_know Tk Tryz.func36 rfl (fun c3 => ?_) (fun c3 => ?_) | refine s_know Tk (fun c3 => ?_) (fun c3 => ?_)
      · have c3 : (w.length : Int) = 3 := beqT c3
        rw [if_pos (by omega)] at hno
        refine g_stop ?_
        refine rch_meet (J trivial) ⟨rfl, rfl, rfl, trivial⟩ rfl ⟨rfl, by rw [← hno]; rfl, trivial⟩ rfl rfl
      have c3 : (w.length : Int) ≠ 3 := beqF c3
      rw [if_neg (by omega)] at hno
      have hou := fun O => hout O s (by omega)
      have hrl := hol s
      generalize outR a.edges s = row at *
      refine g_drawn Tk Tryz.func36 mixedT rfl ?_
      first | refine g_need Tk Tryz.func36 (by exact ⟨by omega, by show (i : Int) < (all.length : Int); omega⟩) ?_ | refine s_need Tk (by exact ⟨by omega, by show (i : Int) < (all.length : Int); omega⟩) ?_
      first | refine g_elem Tk Tryz.func36 (gl) ?_ | refine s_elem Tk (gl) ?_
      first | refine g_call Tk Tryz.func36 (hou _) rfl rfl rfl rfl rfl ?_ | refine s_callq Tk (fun _ => hou _) rfl rfl rfl ?_
      refine e_done Tk Tryz.func36 (by kernel_rfl) ?_
      have hpre2 := wrdL_pre a.edges 3 f (i + 1) (wvis w row all)
      rw [hno] at hpre2
      have hle2 := hpre2.length_le
      have hwv : (wvis w row all).length = all.length + row.length := by unfold wvis; rw [List.length_append, List.length_map]
      refine g_loop ?_
      refine rch_loop2 (fun k : Nat => [(1, ii 3), (2, bb false), (3, .own 0 3 0 0), (9, .osl 0 73), (10, ii i), (52, edgs row), (53, ii row.length), (54, ii k)]) (fun k => [(3, .box (autC a)), (73, owss (wvis w (row.take k) all))]) (fun _ => O) 102
        (fun k => k ≤ row.length) (fun k => row.length - k) 0 (Nat.zero_le _) ⟨rfl, rfl, rfl, rfl, rfl, rfl, rfl, rfl, trivial⟩ rfl ⟨rfl, by show some (owss all) = some (owss (all ++ [])); rw [List.append_nil], trivial⟩ rfl rfl ?_
      intro k hk ih2
      have hk1 : ii (IntKind.i64.wrap ((k : Int) + 1)) = ii ((k + 1 : Nat) : Int) := congrArg ii (wsucc (n := 1000001) (by omega) (by decide))
      have hwk : (wvis w (row.take k) all).length = all.length + k := by unfold wvis; rw [List.length_append, List.length_map, List.length_take]; omega
      have hgk : (wvis w (row.take k) all)[i]? = some (w, s) := by unfold wvis; rw [List.getElem?_append_left h1]; exact hgi
      have glk : ((wvis w (row.take k) all).map wsI)[(i : Int).toNat]? = some (wsI (w, s)) := by rw [Int.toNat_natCast, List.getElem?_map, hgk]; rfl
      refine g_run Tk Tryz.func36 ?_
      first | refine g_cnd Tk Tryz.func36 rfl (fun g4 => ?_) (fun g4 => ?_) | refine g_know Tk Tryz.func36 rfl (fun g4 => ?_) (fun g4 => ?_) | refine s_know Tk (fun g4 => ?_) (fun g4 => ?_)
      · have h4 : k < row.length := by simpa using g4
        have ge : (row.map edgI)[(k : Int).toNat]? = some (edgI row[k]) := get_mapZ h4
        have hsn : wvis w (row.take (k + 1)) all = wvis w (row.take k) all ++ [(w ++ [row[k].2.1], row[k].2.2)] := by
          unfold wvis
          rw [List.take_add_one, List.getElem?_eq_getElem h4, List.map_append, List.append_assoc]
          rfl
        generalize row[k] = e at *
        obtain ⟨ef, ee, et⟩ := e
        simp only at hsn
        generalize wvis w (row.take k) all = al2 at *
        first | refine g_need Tk Tryz.func36 (by exact ⟨by omega, by show (k : Int) < (row.length : Int); omega⟩) ?_ | refine s_need Tk (by exact ⟨by omega, by show (k : Int) < (row.length : Int); omega⟩) ?_
        first | refine g_elem Tk Tryz.func36 (ge) ?_ | refine s_elem Tk (ge) ?_
        refine g_drawn Tk Tryz.func36 mixedT rfl ?_
        first | refine g_need Tk Tryz.func36 (by exact ⟨by omega, by show (i : Int) < (al2.length : Int); omega⟩) ?_ | refine s_need Tk (by exact ⟨by omega, by show (i : Int) < (al2.length : Int); omega⟩) ?_
        first | refine g_elem Tk Tryz.func36 (glk) ?_ | refine s_elem Tk (glk) ?_
        first | refine g_call Tk Tryz.func36 (clone57 64 _ w (by simp only [big]; omega)) rfl rfl rfl rfl rfl ?_ | refine s_callq Tk (fun _ => clone57 64 _ w (by simp only [big]; omega)) rfl rfl rfl ?_
        refine s_oldF Tk ⟨[(68, .osl 0 68), (64, .dead)], [(68, .arr 3 1 (w.length + 1) ((w.map fun x => [vi x]) ++ [[vi ee]]) true)], some 64⟩ rfl rfl ?_ ?_
        · refine d_need Tk (by exact ⟨by show (w.length + 1) * 8 ≤ 140737488355328; omega, by show w.length + 1 ≤ 9223372036854775807; omega⟩) ?_
          refine d_mod Tk (p := ⟨[(68, .osl 0 68), (64, .dead)], [(68, .arr 3 1 (w.length + 1) ((w.map fun x => [vi x]) ++ [[vi ee]]) true)], some 64⟩) rfl rfl rfl ?_
          exact rfl
        refine s_old Tk ?_
        refine d_need Tk (by exact ⟨by show (al2.length + 1) * 32 ≤ 140737488355328; omega, by show al2.length + 1 ≤ 9223372036854775807; omega⟩) ?_
        refine d_mod Tk (p := ⟨[(73, .osl 0 73), (62, .dead), (61, .dead), (59, .dead), (58, .dead), (9, .dead)], [(73, .arr 116 2 (al2.length + 1) (al2.map wsI ++ [[.sl 1 (w.length + 1) ((w.map fun x => [vi x]) ++ [[vi ee]]), vi et]]) true)], some 73⟩) rfl rfl rfl ?_
        refine d_done Tk Tryz.func36 (by kernel_rfl) (GM.h ?_)
        refine g_loop ?_
        refine ih2 (k + 1) _ _ h4 (by omega) ⟨rfl, rfl, rfl, rfl, rfl, rfl, rfl, hk1, trivial⟩ rfl ⟨rfl, ?_, trivial⟩ rfl rfl
        rw [hsn]
        have e73 : Ob.arr 116 2 (al2.length + 1) (al2.map wsI ++ [[.sl 1 (w.length + 1) ((w.map fun x => [vi x]) ++ [[vi ee]]), vi et]]) true = owss (al2 ++ [(w ++ [ee], et)]) := by simp
        exact congrArg some e73
      · have h4 : row.length ≤ k := by simpa using g4
        have hkk : k = row.length := by omega
        subst hkk
        rw [List.take_length] at *
        first | refine g_cnd Tk Tryz.func36 rfl (fun c5 => ?_) (fun c5 => ?_) | refine g_know Tk Tryz.func36 rfl (fun c5 => ?_) (fun c5 => ?_) | refine s_know Tk (fun c5 => ?_) (fun c5 => ?_)
        · exact absurd (of_decide_eq_true c5) (by show ¬ ((wvis w row all).length : Int) > 1024; omega)
        refine g_loop ?_
        exact ih (i + 1, f, wvis w row all) _ _ ⟨by simp only; omega, by simp only; omega, hno⟩ (by simp only; omega) ⟨rfl, rfl, rfl, rfl, congrArg ii (wsucc (n := 1000001) (by omega) (by decide)), trivial⟩ rfl ⟨rfl, rfl, trivial⟩ rfl rfl
    · have h1 : all.length ≤ i := by simpa using g1
      simp only [wrdL, List.getElem?_eq_none h1] at hno
      refine g_stop ?_
      refine rch_meet (J trivial) ⟨rfl, rfl, rfl, trivial⟩ rfl ⟨rfl, by rw [← hno]; rfl, trivial⟩ rfl rfl
  intro _
  clear hK
  refine g_run Tk Tryz.func36 ?_
  refine g_go Tk Tryz.func36 ?_
  refine g_loop ?_
  refine rch_wk (wk_nil 13 99 29 1 rfl rfl rfl) ?_
  refine rch_loop2 (fun k : Nat => [(2, bb false), (13, .osl 0 99), (78, .osl 0 73), (79, ii KK.length), (80, ii k)]) (fun k => [(73, owss KK), (99, orows ((KK.take k).map (·.1)))]) (fun _ => O) 102
    (fun k => k ≤ KK.length) (fun k => KK.length - k) 0 (Nat.zero_le _) ⟨rfl, rfl, rfl, rfl, rfl, trivial⟩ rfl ⟨rfl, rfl, trivial⟩ rfl rfl ?_
  intro k hk ih
  have hk1 : ii (IntKind.i64.wrap ((k : Int) + 1)) = ii ((k + 1 : Nat) : Int) := congrArg ii (wsucc (n := 1000001) (by omega) (by decide))
  have hll : ((KK.take k).map (·.1)).length = k := by rw [List.length_map, List.length_take]; omega
  refine g_run Tk Tryz.func36 ?_
  first | refine g_cnd Tk Tryz.func36 rfl (fun g4 => ?_) (fun g4 => ?_) | refine g_know Tk Tryz.func36 rfl (fun g4 => ?_) (fun g4 => ?_) | refine s_know Tk (fun g4 => ?_) (fun g4 => ?_)
  · have h4 : k < KK.length := by simpa using g4
    have gk : (KK.map wsI)[(k : Int).toNat]? = some (wsI KK[k]) := get_mapZ h4
    have hwn := hwl _ (List.getElem_mem h4)
    have hsn : (KK.take (k + 1)).map (·.1) = (KK.take k).map (·.1) ++ [KK[k].1] := by
      rw [List.take_add_one, List.getElem?_eq_getElem h4, List.map_append]
      rfl
    generalize KK[k] = z at *
    obtain ⟨w, s⟩ := z
    simp only at hsn hwn
    generalize (KK.take k).map (·.1) = ls at *
    first | refine g_need Tk Tryz.func36 (by exact ⟨by omega, by show (k : Int) < (KK.length : Int); omega⟩) ?_ | refine s_need Tk (by exact ⟨by omega, by show (k : Int) < (KK.length : Int); omega⟩) ?_
    first | refine g_elem Tk Tryz.func36 (gk) ?_ | refine s_elem Tk (gk) ?_
    repeat (first | refine gcT Tk Tryz.func36 rfl ?_ | refine gkT Tk Tryz.func36 rfl ?_ | refine skT Tk ?_ | refine gcF Tk Tryz.func36 rfl ?_ | refine gkF Tk Tryz.func36 rfl ?_ | refine skF Tk ?_)
    first | refine g_need Tk Tryz.func36 (by exact ⟨by show (0 + w.length) * 8 ≤ 140737488355328; omega, by show 0 + w.length ≤ 9223372036854775807; omega⟩) ?_ | refine s_need Tk (by exact ⟨by show (0 + w.length) * 8 ≤ 140737488355328; omega, by show 0 + w.length ≤ 9223372036854775807; omega⟩) ?_
    refine g_pause Tk Tryz.func36 rfl rfl (wk_freeze 97 rfl rfl) ?_
    first | refine g_need Tk Tryz.func36 (by exact ⟨by show (ls.length + 1) * 24 ≤ 140737488355328; omega, by show ls.length + 1 ≤ 9223372036854775807; omega⟩) ?_ | refine s_need Tk (by exact ⟨by show (ls.length + 1) * 24 ≤ 140737488355328; omega, by show ls.length + 1 ≤ 9223372036854775807; omega⟩) ?_
    refine g_loop ?_
    refine ih (k + 1) _ _ h4 (by omega) ⟨rfl, rfl, rfl, rfl, hk1, trivial⟩ rfl ⟨rfl, ?_, trivial⟩ rfl rfl
    rw [hsn, ← orows_app]
    show some (Ob.arr 29 1 (ls.length + 1) (ls.map (fun r => [intsI r]) ++ [[.sl 1 (0 + w.length) ([] ++ w.map fun x => [vi x])]]) true) = _
    simp
  · have h4 : KK.length ≤ k := by simpa using g4
    rw [List.take_of_length_le h4]
    refine g_rwk (wk_freeze 99 rfl rfl) ?_
    refine g_ret Tk (r := .tup [.i (intssI (KK.map (·.1))), ii 0]) rfl rfl rfl trivial rfl rfl ?_
    rfl
end Go.AI


/- Plain: Refutes and Contradicts are what the law says. -/
namespace Go.AI
theorem runO_W (es : List Edg) (on : List Int) (n : Nat) : ∀ (w : List Int) (x : OS) (k : Int), runO es on [] n x w = if (runW es x.1 w k).2 = k + w.length then some ((runW es x.1 w k).1, (w.filter fun e => decide (e ∈ on)).foldl (fun e ev => nxt es (lowP on [] false) n e ev) x.2) else none
  | [], x, k => by simp [runO, runW]
  | ev :: r, x, k => by
    have eW : runW es x.1 (ev :: r) k = if stp3 es x.1 ev < 0 then (x.1, k) else runW es (stp3 es x.1 ev) r (k + 1) := rfl
    have eO : runO es on [] n x (ev :: r) = if stp3 es x.1 ev < 0 then none else runO es on [] n (nxO es on [] n x ev) r := rfl
    by_cases c : stp3 es x.1 ev < 0
    · rw [if_pos c] at eW eO
      rw [eO, eW, if_neg]
      simp only [List.length_cons]
      omega
    · rw [if_neg c] at eW eO
      rw [eO, eW, runO_W es on n r (nxO es on [] n x ev) (k + 1)]
      have e1 : (nxO es on [] n x ev).1 = stp3 es x.1 ev := rfl
      rw [e1]
      have e2 : k + 1 + (r.length : Int) = k + ((ev :: r).length : Int) := by simp only [List.length_cons]; omega
      rw [e2]
      have e3 : (nxO es on [] n x ev).2 = if ev ∈ on then nxt es (lowP on [] false) n x.2 ev else x.2 := rfl
      rw [e3, List.filter_cons]
      by_cases c2 : ev ∈ on
      · simp only [c2, if_true, decide_true, List.foldl_cons]
      · simp only [c2, if_false, decide_false, Bool.false_eq_true]
/-- Is a word of the automaton's language? -/
def genB (a : Aut) (w : List Int) : Bool := decide (a.states > 0) && decide ((runW a.edges 0 w 0).2 = (w.length : Int))
theorem rch_W {a : Aut} {n : Nat} (h : gAut a n) (on w : List Int) : rchR a on [] n w = if genB a w = true then some ((runW a.edges 0 w 0).1, estR a on n (w.filter fun e => decide (e ∈ on))) else none := by
  have hst := h.st
  unfold rchR genB
  by_cases hn0 : n = 0
  · rw [if_pos hn0, if_neg]
    have : ¬ a.states > 0 := by omega
    simp [this]
  · rw [if_neg hn0, runO_W a.edges on n w _ 0]
    have h1 : a.states > 0 := by omega
    unfold estR begR
    rw [if_neg hn0]
    simp only [h1, decide_true, Bool.true_and, decide_eq_true_eq, Int.zero_add]
end Go.AI


/- Plain: the projections onto all events and onto none. -/
namespace Go.AI
/- Onto none. -/
section
variable {S : Type} [DecidableEq S]
theorem bfull_closed {V : List S} {nx : S → Int → S} {ok : S → Bool} {evs : S → List Int} (hv : ∀ x ∈ V, ∀ ev ∈ evs x, ok (nx x ev) = true → nx x ev ∈ V) {N : Nat} (hN : V.length < N) : ∀ (f i : Nat) (l : List (S × List Int)), f + i = N → i ≤ l.length → bOk V l →
    (∀ z ∈ l.take i, ∀ ev ∈ evs z.1, ok (nx z.1 ev) = true → ∃ w ∈ l, w.1 = nx z.1 ev) → ∀ z ∈ bfull nx ok evs f i l, ∀ ev ∈ evs z.1, ok (nx z.1 ev) = true → ∃ w ∈ bfull nx ok evs f i l, w.1 = nx z.1 ev
  | 0, i, l, hf, hi, h, _ => by
    have := bOk_len h
    omega
  | f + 1, i, l, hf, hi, h, hc => by
    simp only [bfull]
    cases hg : l[i]? with
    | none =>
      have : l.length ≤ i := by
        rcases Nat.lt_or_ge i l.length with h1 | h1
        · rw [List.getElem?_eq_getElem h1] at hg; cases hg
        · exact h1
      rw [List.take_of_length_le this] at hc
      exact hc
    | some x =>
      have hlt : i < l.length := (List.getElem?_eq_some_iff.1 hg).1
      have hx : x.1 ∈ V := h.el x (List.mem_of_getElem? hg)
      have hp := bvis_pre nx ok x (evs x.1) l
      obtain ⟨r, hr⟩ := hp
      have htk : (bvis nx ok x (evs x.1) l).take (i + 1) = l.take i ++ [x] := by
        rw [← hr, List.take_append_of_le_length (by omega), List.take_add_one, hg]; rfl
      refine bfull_closed hv hN f (i + 1) _ (by omega) (by rw [← hr, List.length_append]; omega) (bvis_ok (hv x.1 hx) h hg) fun z hz ev he c => ?_
      rw [htk, List.mem_append, List.mem_singleton] at hz
      rcases hz with hz | rfl
      · obtain ⟨w, hw, e⟩ := hc z hz ev he c
        exact ⟨w, (bvis_pre nx ok x (evs x.1) l).subset hw, e⟩
      · exact bvis_has he c
end
end Go.AI


/- Plain: what is canonical is reached. -/
namespace Go.AI
end Go.AI


/- Plain: what Observer's yes says of words with the same observation. -/
namespace Go.AI
theorem nxtL_nil (es : List Edg) (p : Int → Bool) (n : Nat) : ∀ t : List Int, nxtL es p n [] t = []
  | [] => rfl
  | ev :: r => by
    show nxtL es p n (nxt es p n [] ev) r = []
    rw [nxt_nil]
    exact nxtL_nil es p n r
theorem mis_complete {a : Aut} {on A B : List Int} {n : Nat} (hn : n ≤ 5) (hA : A ∈ subs n) (hB : B ∈ subs n) (h : misR a on n A B = none) (t : List Int) (ht : ∀ ev ∈ t, ev ∈ keptR a on) :
    badM a (nxtL a.edges (lowP on [] false) n A t) (nxtL a.edges (lowP on [] false) n B t) = false := by
  have hsi := stepP_in a.edges (lowP on [] false) n
  have hVl := pairsV_len hn
  have hB0 : bOk (pairsV n) [((A, B), ([] : List Int))] := bOk_one (mem_pairsV.2 ⟨hA, hB⟩)
  unfold misR at h
  rw [bsr_find (V := pairsV n) (N := 4096) (fun x _ ev _ _ => hsi x ev) (by omega) 4096 0 _ rfl (by simp) hB0 (by simp)] at h
  have hno := List.find?_eq_none.1 h
  have hcl := bfull_closed (V := pairsV n) (nx := stepP a.edges (lowP on [] false) n) (ok := okX) (evs := fun _ => keptR a on) (N := 4096) (fun x _ ev _ _ => hsi x ev) (by omega) 4096 0 _ rfl (by simp) hB0 (by simp)
  have hpre := bfull_pre (stepP a.edges (lowP on [] false) n) okX (fun _ => keptR a on) 4096 0 [((A, B), [])]
  generalize bfull (stepP a.edges (lowP on [] false) n) okX (fun _ => keptR a on) 4096 0 [((A, B), [])] = L at *
  have key : ∀ (t : List Int) (x : PS), (∀ ev ∈ t, ev ∈ keptR a on) → (∃ w ∈ L, w.1 = x) → badM a (nxtL a.edges (lowP on [] false) n x.1 t) (nxtL a.edges (lowP on [] false) n x.2 t) = false := by
    intro t
    induction t with
    | nil =>
      rintro x _ ⟨w, hw, rfl⟩
      have := hno w hw
      show badM a w.1.1 w.1.2 = false
      simpa using this
    | cons ev r ih =>
      rintro x hk ⟨w, hw, rfl⟩
      show badM a (nxtL a.edges (lowP on [] false) n (nxt a.edges (lowP on [] false) n w.1.1 ev) r) (nxtL a.edges (lowP on [] false) n (nxt a.edges (lowP on [] false) n w.1.2 ev) r) = false
      by_cases c : okX (stepP a.edges (lowP on [] false) n w.1 ev) = true
      · obtain ⟨u, hu, e⟩ := hcl w hw ev (hk ev (by simp)) c
        exact ih (stepP a.edges (lowP on [] false) n w.1 ev) (fun e he => hk e (by simp [he])) ⟨u, hu, e⟩
      · have e : nxt a.edges (lowP on [] false) n w.1.1 ev = [] := by
          have c : ¬ decide ((nxt a.edges (lowP on [] false) n w.1.1 ev).length > 0) = true := c
          have := of_decide_eq_false (by simpa using c : decide ((nxt a.edges (lowP on [] false) n w.1.1 ev).length > 0) = false)
          exact List.eq_nil_of_length_eq_zero (by omega)
        rw [e, nxtL_nil]
        rfl
  exact key t (A, B) ht ⟨((A, B), []), hpre.subset (List.mem_singleton.2 rfl), rfl⟩
/-- Each word's pair is one of the list. -/
theorem prs_word {a : Aut} {n : Nat} (h : gAut a n) (hn : n ≤ 5) (hn0 : n ≠ 0) (on : List Int) : ∀ (w : List Int) (x y : OS), (∃ z ∈ prsR a on n, z.1 = x) → runO a.edges on [] n x w = some y → ∃ z ∈ prsR a on n, z.1 = y := by
  have hVl := statesV_len hn
  have hB0 : bOk (statesV n) [(((0 : Int), clo a.edges (lowP on [] false) n [0]), ([] : List Int))] := bOk_one (mem_statesV.2 ⟨by simp only; omega, sorted_subs _ _⟩)
  have hcl := bfull_closed (V := statesV n) (nx := nxO a.edges on [] n) (ok := fun _ => true) (evs := evO a.edges) (N := 4096) (evO_in h on) (by omega) 4096 0 _ rfl (by simp) hB0 (by simp)
  rw [prs_eq h hn hn0 on] at hcl
  intro w
  induction w with
  | nil =>
    intro x y hx hr
    simp only [runO, Option.some.injEq] at hr
    subst hr
    exact hx
  | cons ev r ih =>
    rintro x y ⟨z, hz, rfl⟩ hr
    have eO : runO a.edges on [] n z.1 (ev :: r) = if stp3 a.edges z.1.1 ev < 0 then none else runO a.edges on [] n (nxO a.edges on [] n z.1 ev) r := rfl
    rw [eO] at hr
    by_cases c : stp3 a.edges z.1.1 ev < 0
    · rw [if_pos c] at hr; cases hr
    rw [if_neg c] at hr
    have hmem : ev ∈ evO a.edges z.1 := by
      rw [evO_eq h on z.1 ((prs_bOk h on).el z hz), List.mem_filter]
      refine ⟨?_, decide_eq_true (by show 0 ≤ stp3 a.edges z.1.1 ev; omega)⟩
      by_cases c2 : ∃ e ∈ a.edges, e.1 = z.1.1 ∧ e.2.1 = ev
      · obtain ⟨e, he, _, e2⟩ := c2
        have := h.ev e he
        rwa [e2] at this
      · rw [stp3_no fun e he hc => c2 ⟨e, he, hc⟩] at c
        exact absurd (by decide) c
    obtain ⟨u, hu, e⟩ := hcl z hz ev hmem rfl
    exact ih _ y ⟨u, hu, e⟩ hr
/-- The closure of the state lies in the estimate. -/
theorem est_has {a : Aut} {n : Nat} (h : gAut a n) (on : List Int) : ∀ (w : List Int) (x y : OS), (0 ≤ x.1 ∧ x.1 < (n : Int)) → (∀ v ∈ clo a.edges (lowP on [] false) n [x.1], v ∈ x.2) → runO a.edges on [] n x w = some y → ∀ v ∈ clo a.edges (lowP on [] false) n [y.1], v ∈ y.2
  | [], x, y, _, hx, hr => by
    simp only [runO, Option.some.injEq] at hr
    subst hr
    exact hx
  | ev :: r, x, y, hin, hx, hr => by
    have eO : runO a.edges on [] n x (ev :: r) = if stp3 a.edges x.1 ev < 0 then none else runO a.edges on [] n (nxO a.edges on [] n x ev) r := rfl
    rw [eO] at hr
    by_cases c : stp3 a.edges x.1 ev < 0
    · rw [if_pos c] at hr; cases hr
    rw [if_neg c] at hr
    have hex : ∃ e ∈ a.edges, e.1 = x.1 ∧ e.2.1 = ev := by
      by_cases c2 : ∃ e ∈ a.edges, e.1 = x.1 ∧ e.2.1 = ev
      · exact c2
      · rw [stp3_no fun e he hc => c2 ⟨e, he, hc⟩] at c
        exact absurd (by decide) c
    obtain ⟨e, he, e1, e2⟩ := hex
    have hs := stp3_of h.pw he
    rw [e1, e2] at hs
    have hself : x.1 ∈ x.2 := hx _ ((mem_clo h.to).2 ⟨hin, .base (by simp)⟩)
    refine est_has h on r _ y (by show 0 ≤ stp3 a.edges x.1 ev ∧ stp3 a.edges x.1 ev < (n : Int); rw [hs]; exact h.to e he) (fun v hv => ?_) hr
    have hv : v ∈ clo a.edges (lowP on [] false) n [stp3 a.edges x.1 ev] := hv
    rw [hs, mem_clo h.to] at hv
    show v ∈ if ev ∈ on then nxt a.edges (lowP on [] false) n x.2 ev else x.2
    by_cases c2 : ev ∈ on
    · rw [if_pos c2]
      unfold nxt
      rw [mem_clo h.to]
      refine ⟨hv.1, Rc.mono (fun _ _ hp => hp) (fun u hu => ?_) hv.2⟩
      rw [List.mem_singleton] at hu
      subst hu
      exact .base (mem_tgtE.2 ⟨e, he, by rw [e1]; exact hself, e2, rfl⟩)
    · rw [if_neg c2]
      refine hx v ((mem_clo h.to).2 ⟨hv.1, Rc.mono (fun _ _ hp => hp) (fun u hu => ?_) hv.2⟩)
      rw [List.mem_singleton] at hu
      subst hu
      refine .step (.base (by rw [e1]; simp)) he ?_
      rw [e2]
      simp [lowP, c2]
theorem nxt_mono {es : List Edg} {p : Int → Bool} {n : Nat} (hes : ∀ x ∈ es, 0 ≤ x.2.2 ∧ x.2.2 < (n : Int)) {A B : List Int} (h : ∀ v ∈ A, v ∈ B) (ev : Int) : ∀ v ∈ nxt es p n A ev, v ∈ nxt es p n B ev := fun v hv => by
  unfold nxt at hv ⊢
  rw [mem_clo hes] at hv ⊢
  refine ⟨hv.1, Rc.mono (fun _ _ hp => hp) (fun u hu => .base ?_) hv.2⟩
  obtain ⟨e, he, h1, h2, h3⟩ := mem_tgtE.1 hu
  exact mem_tgtE.2 ⟨e, he, h _ h1, h2, h3⟩
theorem nxtL_mono {es : List Edg} {p : Int → Bool} {n : Nat} (hes : ∀ x ∈ es, 0 ≤ x.2.2 ∧ x.2.2 < (n : Int)) : ∀ (t A B : List Int), (∀ v ∈ A, v ∈ B) → ∀ v ∈ nxtL es p n A t, v ∈ nxtL es p n B t
  | [], _, _, h => h
  | ev :: r, A, B, h => nxtL_mono hes r (nxt es p n A ev) (nxt es p n B ev) (nxt_mono hes h ev)
/-- WORDS WITH ONE OBSERVATION are completed alike. -/
theorem obs_words {a : Aut} {n : Nat} (h : gAut a n) (hn : n ≤ 5) (on : List Int) (ho : (obL a on n (prsR a on n)).2.2 = true) {w : List Int} (hw : genB a w = true) {t : List Int} (ht : ∀ ev ∈ t, ev ∈ keptR a on) :
    marksR a (nxtL a.edges (lowP on [] false) n (clo a.edges (lowP on [] false) n [(runW a.edges 0 w 0).1]) t) = marksR a (nxtL a.edges (lowP on [] false) n (estR a on n (w.filter fun e => decide (e ∈ on))) t) := by
  have hst := h.st
  have hn0 : n ≠ 0 := by
    intro e
    unfold genB at hw
    rw [Bool.and_eq_true] at hw
    have := of_decide_eq_true hw.1
    omega
  have hr := rch_W h on w
  rw [if_pos hw] at hr
  unfold rchR at hr
  rw [if_neg hn0] at hr
  have h0 : (0 : Int) ≤ 0 ∧ (0 : Int) < (n : Int) := by omega
  have hpre : ∃ z ∈ prsR a on n, z.1 = ((0, clo a.edges (lowP on [] false) n [0]) : OS) := by
    have hp := bfull_pre (nxO a.edges on [] n) (fun _ => true) (evO a.edges) 4096 0 [((0, clo a.edges (lowP on [] false) n [0]), [])]
    rw [prs_eq h hn hn0 on] at hp
    exact ⟨((0, clo a.edges (lowP on [] false) n [0]), []), hp.subset (List.mem_singleton.2 rfl), rfl⟩
  obtain ⟨z, hz, he⟩ := prs_word h hn hn0 on w _ _ hpre hr
  have hsub := est_has h on w _ _ h0 (fun v hv => hv) hr
  generalize (runW a.edges 0 w 0).1 = s at *
  generalize estR a on n (w.filter fun e => decide (e ∈ on)) = est at *
  simp only at hsub
  have hzV := mem_statesV.1 ((prs_bOk h on).el z hz)
  rw [he] at hzV
  have hmis : misR a on n est (clo a.edges (lowP on [] false) n [s]) = none := by
    rw [obL_find] at ho
    cases hf : (prsR a on n).find? fun z => (misR a on n z.1.2 (clo a.edges (lowP on [] false) n [z.1.1])).isSome with
    | some u => rw [hf] at ho; exact absurd ho (by simp [obV])
    | none =>
      have := List.find?_eq_none.1 hf z hz
      rw [he] at this
      cases hm : misR a on n est (clo a.edges (lowP on [] false) n [s]) with
      | none => rfl
      | some u => rw [hm] at this; exact absurd rfl this
  have hb : badM a (nxtL a.edges (lowP on [] false) n est t) (nxtL a.edges (lowP on [] false) n (clo a.edges (lowP on [] false) n [s]) t) = false := mis_complete hn hzV.2 (sorted_subs _ _) hmis t ht
  have hmn := nxtL_mono (p := lowP on [] false) h.to t _ _ hsub
  unfold badM at hb
  generalize nxtL a.edges (lowP on [] false) n est t = X at *
  generalize nxtL a.edges (lowP on [] false) n (clo a.edges (lowP on [] false) n [s]) t = Y at *
  cases hX : marksR a X with
  | true =>
    rw [hX] at hb
    simpa using hb
  | false =>
    cases hY : marksR a Y with
    | false => rfl
    | true =>
      obtain ⟨v, hv, hv2⟩ := List.any_eq_true.1 hY
      have : marksR a X = true := List.any_eq_true.2 ⟨v, hmn v hv, hv2⟩
      rw [hX] at this
      cases this
end Go.AI


/- Plain: the words that automaton.Words lists. -/
namespace Go.AI
def wordsV (al : List Int) : Nat → List (List Int)
  | 0 => [[]]
  | k + 1 => [] :: al.flatMap fun e => (wordsV al k).map fun w => e :: w
theorem mem_wordsV {al : List Int} : ∀ {k : Nat} {w : List Int}, w.length ≤ k → (∀ ev ∈ w, ev ∈ al) → w ∈ wordsV al k
  | 0, w, h, _ => by
    have : w = [] := List.eq_nil_of_length_eq_zero (by omega)
    subst this
    simp [wordsV]
  | k + 1, [], _, _ => by simp [wordsV]
  | k + 1, e :: w, h, hm => by
    simp only [List.length_cons] at h
    refine List.mem_cons_of_mem _ (List.mem_flatMap.2 ⟨e, hm e (by simp), List.mem_map.2 ⟨w, mem_wordsV (by omega) fun x hx => hm x (by simp [hx]), rfl⟩⟩)
theorem wordsV_len {al : List Int} (h : al.length ≤ 5) : (wordsV al 3).length ≤ 156 := by
  have e : ∀ (l : List Int) (m : List (List Int)), (l.flatMap fun e => m.map fun w => e :: w).length = l.length * m.length := by
    intro l m
    induction l with
    | nil => simp
    | cons a r ih => rw [List.flatMap_cons, List.length_append, ih, List.length_map, List.length_cons, Nat.add_mul]; omega
  have h0 : (wordsV al 0).length = 1 := rfl
  have h1 : (wordsV al 1).length ≤ 6 := by
    show ([] :: al.flatMap fun e => (wordsV al 0).map fun w => e :: w).length ≤ 6
    rw [List.length_cons, e, h0]; omega
  have h2 : (wordsV al 2).length ≤ 31 := by
    show ([] :: al.flatMap fun e => (wordsV al 1).map fun w => e :: w).length ≤ 31
    rw [List.length_cons, e]
    have := Nat.mul_le_mul h h1
    omega
  show ([] :: al.flatMap fun e => (wordsV al 2).map fun w => e :: w).length ≤ 156
  rw [List.length_cons, e]
  have := Nat.mul_le_mul h h2
  omega
theorem runW_snoc {es : List Edg} : ∀ (w : List Int) (s k : Int) (t ev : Int), runW es s w k = (t, k + w.length) → 0 ≤ stp3 es t ev → runW es s (w ++ [ev]) k = (stp3 es t ev, k + (w ++ [ev]).length)
  | [], s, k, t, ev, h, h0 => by
    simp only [runW, Prod.mk.injEq] at h
    obtain ⟨rfl, _⟩ := h
    show (if stp3 es s ev < 0 then (s, k) else runW es (stp3 es s ev) [] (k + 1)) = _
    rw [if_neg (by omega)]
    simp [runW]
  | x :: r, s, k, t, ev, h, h0 => by
    have e1 : runW es s (x :: r) k = if stp3 es s x < 0 then (s, k) else runW es (stp3 es s x) r (k + 1) := rfl
    have e2 : runW es s (x :: r ++ [ev]) k = if stp3 es s x < 0 then (s, k) else runW es (stp3 es s x) (r ++ [ev]) (k + 1) := rfl
    rw [e1] at h
    rw [e2]
    by_cases c : stp3 es s x < 0
    · rw [if_pos c] at h
      simp only [Prod.mk.injEq, List.length_cons] at h
      omega
    · rw [if_neg c] at h ⊢
      have := runW_snoc r (stp3 es s x) (k + 1) t ev (by rw [h]; simp only [List.length_cons, Prod.mk.injEq, true_and]; omega) h0
      rw [this]
      simp only [List.length_append, List.length_cons, List.length_nil, Prod.mk.injEq, true_and]
      omega
structure wOk (a : Aut) (n i : Nat) (all : List WS) : Prop where
  run : ∀ z ∈ all, runW a.edges 0 z.1 0 = (z.2, (z.1.length : Int)) ∧ 0 ≤ z.2 ∧ z.2 < (n : Int)
  nd : (all.map (·.1)).Nodup
  wd : ∀ z ∈ all, z.1.length ≤ 3 ∧ ∀ ev ∈ z.1, ev ∈ a.alpha
  par : ∀ z ∈ all, z.1 = [] ∨ ∃ j, j < i ∧ ∃ u ev, all[j]? = some u ∧ z.1 = u.1 ++ [ev]
theorem wOk_step {a : Aut} {n i : Nat} (h : gAut a n) {all : List WS} (hk : wOk a n i all) {x : WS} (hx : all[i]? = some x) (h3 : x.1.length ≠ 3) : wOk a n (i + 1) (wvis x.1 (outR a.edges x.2) all) := by
  have hmx := List.mem_of_getElem? hx
  have hil : i < all.length := (List.getElem?_eq_some_iff.1 hx).1
  obtain ⟨hr, hs⟩ := hk.run x hmx
  obtain ⟨hw3, hwa⟩ := hk.wd x hmx
  have hrow : ∀ e ∈ outR a.edges x.2, e ∈ a.edges ∧ stp3 a.edges x.2 e.2.1 = e.2.2 := fun e he => by
    have h1 := outR_sub e he
    have h2 := outR_frm (sortedF_of h.pw) e he
    have := stp3_of h.pw h1
    rw [h2] at this
    exact ⟨h1, this⟩
  have hnew : ∀ z ∈ (outR a.edges x.2).map (fun e => ((x.1 ++ [e.2.1], e.2.2) : WS)), ∃ e ∈ outR a.edges x.2, z = (x.1 ++ [e.2.1], e.2.2) := fun z hz => by
    obtain ⟨e, he, e1⟩ := List.mem_map.1 hz
    exact ⟨e, he, e1.symm⟩
  unfold wvis
  refine ⟨fun z hz => ?_, ?_, fun z hz => ?_, fun z hz => ?_⟩
  · rcases List.mem_append.1 hz with hz | hz
    · exact hk.run z hz
    · obtain ⟨e, he, rfl⟩ := hnew z hz
      obtain ⟨h1, h2⟩ := hrow e he
      have := runW_snoc x.1 0 0 x.2 e.2.1 (by rw [hr]; simp) (by rw [h2]; exact (h.to e h1).1)
      rw [h2] at this
      refine ⟨?_, h.to e h1⟩
      rw [this]
      simp
  · rw [List.map_append, List.map_map]
    unfold List.Nodup
    rw [List.pairwise_append]
    refine ⟨hk.nd, ?_, fun p hp q hq => ?_⟩
    · rw [List.pairwise_map]
      have hpw : (outR a.edges x.2).Pairwise ltE := by
        unfold outR
        exact (h.pw.sublist ((List.drop_sublist _ _).trans (List.take_sublist _ _)))
      refine List.Pairwise.imp_of_mem (fun {p q} hp hq hlt => ?_) hpw
      have h1 := outR_frm (sortedF_of h.pw) p hp
      have h2 := outR_frm (sortedF_of h.pw) q hq
      intro e
      have e : x.1 ++ [p.2.1] = x.1 ++ [q.2.1] := e
      have e := List.append_cancel_left e
      simp only [List.cons.injEq, and_true] at e
      rcases hlt with hlt | hlt
      · omega
      · omega
    · obtain ⟨z, hz, rfl⟩ := List.mem_map.1 hp
      obtain ⟨e, he, rfl⟩ := List.mem_map.1 hq
      intro heq
      have heq : z.1 = x.1 ++ [e.2.1] := heq
      rcases hk.par z hz with h0 | ⟨j, hj, u, ev, hu, hz2⟩
      · rw [h0] at heq
        exact absurd heq.symm (by simp)
      · rw [heq] at hz2
        have e3 := List.append_inj_left' hz2 rfl
        have hjl : j < all.length := (List.getElem?_eq_some_iff.1 hu).1
        have hne := List.pairwise_iff_getElem.1 hk.nd j i (by simpa using hjl) (by simpa using hil) hj
        apply hne
        have g1 : all[j] = u := (List.getElem?_eq_some_iff.1 hu).2
        have g2 : all[i] = x := (List.getElem?_eq_some_iff.1 hx).2
        simp only [List.getElem_map, g1, g2]
        exact e3.symm
  · rcases List.mem_append.1 hz with hz | hz
    · exact hk.wd z hz
    · obtain ⟨e, he, rfl⟩ := hnew z hz
      refine ⟨by simp only [List.length_append, List.length_singleton]; omega, fun ev hev => ?_⟩
      rcases List.mem_append.1 hev with hev | hev
      · exact hwa ev hev
      · rw [List.mem_singleton] at hev
        subst hev
        exact h.ev e (hrow e he).1
  · rcases List.mem_append.1 hz with hz | hz
    · rcases hk.par z hz with h0 | ⟨j, hj, u, ev, hu, hz2⟩
      · exact .inl h0
      · have hjl : j < all.length := (List.getElem?_eq_some_iff.1 hu).1
        exact .inr ⟨j, by omega, u, ev, by rw [List.getElem?_append_left hjl]; exact hu, hz2⟩
    · obtain ⟨e, he, rfl⟩ := hnew z hz
      exact .inr ⟨i, by omega, x, e.2.1, by rw [List.getElem?_append_left hil]; exact hx, rfl⟩
theorem wrdL_ok {a : Aut} {n : Nat} (h : gAut a n) : ∀ (f i : Nat) (all : List WS), wOk a n i all → ∃ i', wOk a n i' (wrdL a.edges 3 f i all)
  | 0, i, all, hk => ⟨i, hk⟩
  | f + 1, i, all, hk => by
    simp only [wrdL]
    cases hg : all[i]? with
    | none => exact ⟨i, hk⟩
    | some x =>
      simp only
      by_cases c : x.1.length = 3
      · rw [if_pos c]; exact ⟨i, hk⟩
      · rw [if_neg c]
        exact wrdL_ok h f (i + 1) _ (wOk_step h hk hg c)
theorem wrdR_ok {a : Aut} {n : Nat} (h : gAut a n) (hal : a.alpha.length ≤ 5) : (wrdR a n 3).length ≤ 156 ∧ ∀ z ∈ wrdR a n 3, genB a z.1 = true ∧ (runW a.edges 0 z.1 0).1 = z.2 ∧ (0 ≤ z.2 ∧ z.2 < (n : Int)) ∧ z.1.length ≤ 3 := by
  have hst := h.st
  unfold wrdR
  by_cases hn0 : n = 0
  · rw [if_pos hn0]
    exact ⟨by simp, by simp⟩
  rw [if_neg hn0]
  obtain ⟨i', hk⟩ := wrdL_ok h 1026 0 [([], 0)] ⟨fun z hz => by
    rw [List.mem_singleton] at hz
    subst hz
    exact ⟨rfl, by omega, by simp only; omega⟩, by simp, fun z hz => by
    rw [List.mem_singleton] at hz
    subst hz
    exact ⟨by simp, by simp⟩, fun z hz => by
    rw [List.mem_singleton] at hz
    subst hz
    exact .inl rfl⟩
  generalize wrdL a.edges 3 1026 0 [([], 0)] = L at *
  refine ⟨?_, fun z hz => ?_⟩
  · have := nodup_sub hk.nd (m := wordsV a.alpha 3) fun w hw => by
      obtain ⟨z, hz, rfl⟩ := List.mem_map.1 hw
      exact mem_wordsV (hk.wd z hz).1 (hk.wd z hz).2
    have h2 := wordsV_len hal
    rw [List.length_map] at this
    omega
  · obtain ⟨h1, h2⟩ := hk.run z hz
    refine ⟨?_, by rw [h1], h2, (hk.wd z hz).1⟩
    unfold genB
    rw [h1]
    have : a.states > 0 := by omega
    simp [this]
end Go.AI


/- Law Refutes. -/
namespace Go.AI
open Go.Proofs
set_option maxRecDepth 20000
end Go.AI
