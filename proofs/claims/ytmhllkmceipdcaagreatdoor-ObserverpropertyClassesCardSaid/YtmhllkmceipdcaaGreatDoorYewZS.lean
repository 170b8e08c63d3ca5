/- The layer of abstract runs, part 45. -/
import Derived.Test.YtmhllkmceipdcaaGreatDoorYewZR
import Derived.Lib.SlicesCompact
set_option linter.unusedSimpArgs false
set_option linter.unusedVariables false
set_option linter.all false

namespace Go.AI
open Go.Proofs
set_option maxRecDepth 20000
set_option maxHeartbeats 4000000 in
theorem checkEdges160 (O : List Heap) (a : Aut) (hl : a.edges.length ≤ max63) (hal : a.alpha.length ≤ max63) : ASpec Tryz.prog 102 [autD a] O (ii (chkEds a.alpha a.states none a.edges)) [] O := by
  obtain ⟨al, n, mk, es⟩ := a
  simp only at hl hal ⊢
  generalize hR : chkEds al n none es = R
  refine aspec_intro Tk Tryz.func102 rfl Tryz.call102 Tryz.ntmps102 (Nat.le_of_ble_eq_true rfl) fun E => ?_
  refine g_run Tk Tryz.func102 ?_
  refine g_loop ?_
  refine rch_loop2 (fun x : Nat × Option Edg => [(1, .own 0 1 0 0), (7, edgs es), (8, ii es.length), (9, ii x.1)]) (fun _ => [(1, .box [ints al, ii n, ints mk, edgs es])]) (fun _ => O) 72
    (fun x => x.1 ≤ es.length ∧ chkEds al n x.2 (es.drop x.1) = R ∧ ((x.1 = 0 ∧ x.2 = none) ∨ ∃ h : 0 < x.1 ∧ x.1 - 1 < es.length, x.2 = some (es[x.1 - 1]'h.2))) (fun x => es.length - x.1) (0, none) ⟨Nat.zero_le _, hR, .inl ⟨rfl, rfl⟩⟩ ⟨rfl, rfl, rfl, rfl, trivial⟩ rfl ⟨rfl, trivial⟩ rfl rfl ?_
  rintro ⟨i, prev⟩ ⟨hi, hno, hp⟩ ih
  simp only at hi hno hp
  clear hR
  refine g_run Tk Tryz.func102 ?_
  first | refine g_cnd Tk Tryz.func102 rfl (fun g1 => ?_) (fun g1 => ?_) | refine g_know Tk Tryz.func102 rfl (fun g1 => ?_) (fun g1 => ?_) | refine s_know Tk (fun g1 => ?_) (fun g1 => ?_)
  · have h1 : i < es.length := by simpa using g1
    have ge : (es.map edgI)[(i : Int).toNat]? = some (edgI es[i]) := get_mapZ h1
    have dl : es.drop i = es[i] :: es.drop (i + 1) := List.drop_eq_getElem_cons h1
    rw [dl] at hno
    simp only [chkEds] at hno
    clear dl
    have hi1 : ii (IntKind.i64.wrap ((i : Int) + 1)) = ii ((i + 1 : Nat) : Int) := congrArg ii (wsucc h1 hl)
    have hnext : (i + 1 = 0 ∧ some es[i] = none) ∨ ∃ h : 0 < i + 1 ∧ i + 1 - 1 < es.length, some es[i] = some (es[i + 1 - 1]'h.2) := .inr ⟨⟨by omega, by omega⟩, rfl⟩
    have hcn := contains110 (l := al) (x := es[i].2.1) (hl := hal)
    generalize hx : es[i] = x at *
    obtain ⟨xf, xe, xt⟩ := x
    simp only at hno hcn
    first | refine g_need Tk Tryz.func102 (by exact ⟨by omega, by show (i : Int) < (es.length : Int); omega⟩) ?_ | refine s_need Tk (by exact ⟨by omega, by show (i : Int) < (es.length : Int); omega⟩) ?_
    first | refine g_elem Tk Tryz.func102 (ge) ?_ | refine s_elem Tk (ge) ?_
    first | refine g_cnd Tk Tryz.func102 rfl (fun c1 => ?_) (fun c1 => ?_) | refine g_know Tk Tryz.func102 rfl (fun c1 => ?_) (fun c1 => ?_) | refine s_know Tk (fun c1 => ?_) (fun c1 => ?_)
    · have c1 : xf < 0 := of_decide_eq_true c1
      rw [if_pos (.inl c1)] at hno
      subst hno
      repeat (first | refine gcT Tk Tryz.func102 rfl ?_ | refine gkT Tk Tryz.func102 rfl ?_ | refine skT Tk ?_ | refine gcF Tk Tryz.func102 rfl ?_ | refine gkF Tk Tryz.func102 rfl ?_ | refine skF Tk ?_)
      refine g_ret Tk (r := ii 2) rfl rfl rfl trivial rfl rfl ?_
      rfl
    have c1 : ¬ xf < 0 := of_decide_eq_false c1
    first | refine g_cnd Tk Tryz.func102 rfl (fun c2 => ?_) (fun c2 => ?_) | refine g_know Tk Tryz.func102 rfl (fun c2 => ?_) (fun c2 => ?_) | refine s_know Tk (fun c2 => ?_) (fun c2 => ?_)
    · have c2 : xf ≥ n := of_decide_eq_true c2
      rw [if_pos (.inr (.inl c2))] at hno
      subst hno
      repeat (first | refine gcT Tk Tryz.func102 rfl ?_ | refine gkT Tk Tryz.func102 rfl ?_ | refine skT Tk ?_ | refine gcF Tk Tryz.func102 rfl ?_ | refine gkF Tk Tryz.func102 rfl ?_ | refine skF Tk ?_)
      refine g_ret Tk (r := ii 2) rfl rfl rfl trivial rfl rfl ?_
      rfl
    have c2 : ¬ xf ≥ n := of_decide_eq_false c2
    first | refine g_cnd Tk Tryz.func102 rfl (fun c3 => ?_) (fun c3 => ?_) | refine g_know Tk Tryz.func102 rfl (fun c3 => ?_) (fun c3 => ?_) | refine s_know Tk (fun c3 => ?_) (fun c3 => ?_)
    · have c3 : xt < 0 := of_decide_eq_true c3
      rw [if_pos (.inr (.inr (.inl c3)))] at hno
      subst hno
      repeat (first | refine gcT Tk Tryz.func102 rfl ?_ | refine gkT Tk Tryz.func102 rfl ?_ | refine skT Tk ?_ | refine gcF Tk Tryz.func102 rfl ?_ | refine gkF Tk Tryz.func102 rfl ?_ | refine skF Tk ?_)
      refine g_ret Tk (r := ii 2) rfl rfl rfl trivial rfl rfl ?_
      rfl
    have c3 : ¬ xt < 0 := of_decide_eq_false c3
    first | refine g_cnd Tk Tryz.func102 rfl (fun c4 => ?_) (fun c4 => ?_) | refine g_know Tk Tryz.func102 rfl (fun c4 => ?_) (fun c4 => ?_) | refine s_know Tk (fun c4 => ?_) (fun c4 => ?_)
    · have c4 : xt ≥ n := of_decide_eq_true c4
      rw [if_pos (.inr (.inr (.inr c4)))] at hno
      subst hno
      refine g_ret Tk (r := ii 2) rfl rfl rfl trivial rfl rfl ?_
      rfl
    have c4 : ¬ xt ≥ n := of_decide_eq_false c4
    rw [if_neg (by omega)] at hno
    first | refine g_call Tk Tryz.func102 (hcn _) rfl rfl rfl rfl rfl ?_ | refine s_callq Tk (fun _ => hcn _) rfl rfl rfl ?_
    first | refine g_cnd Tk Tryz.func102 rfl (fun c5 => ?_) (fun c5 => ?_) | refine g_know Tk Tryz.func102 rfl (fun c5 => ?_) (fun c5 => ?_) | refine s_know Tk (fun c5 => ?_) (fun c5 => ?_)
    · have c5 : decide (xe ∈ al) = false := notT c5
      have c5 : xe ∉ al := of_decide_eq_false c5
      rw [if_pos c5] at hno
      subst hno
      refine g_ret Tk (r := ii 9) rfl rfl rfl trivial rfl rfl ?_
      rfl
    have c5 : decide (xe ∈ al) = true := notF c5
    have c5 : xe ∈ al := of_decide_eq_true c5
    rw [if_neg (by simpa using c5)] at hno
    rcases hp with ⟨h0, hpr⟩ | ⟨hp1, hpr⟩
    · rw [hpr, if_neg (by simp)] at hno
      first | refine g_cnd Tk Tryz.func102 rfl (fun c6 => ?_) (fun c6 => ?_) | refine g_know Tk Tryz.func102 rfl (fun c6 => ?_) (fun c6 => ?_) | refine s_know Tk (fun c6 => ?_) (fun c6 => ?_)
      rotate_left
      · have c6 : (i : Int) ≠ 0 := beqF c6
        omega
      refine g_loop ?_
      exact ih (i + 1, some (xf, xe, xt)) _ _ ⟨h1, hno, hnext⟩ (by simp only; omega) ⟨rfl, rfl, rfl, hi1, trivial⟩ rfl ⟨rfl, trivial⟩ rfl rfl
    · have gp : (es.map edgI)[(IntKind.i64.wrap ((i : Int) - 1)).toNat]? = some (edgI (es[i - 1]'hp1.2)) := by
        rw [w64 (by omega) (by simp only [max63] at hl; omega), show ((i : Int) - 1).toNat = i - 1 by omega]
        rw [List.getElem?_map, List.getElem?_eq_getElem hp1.2]
        rfl
      have hwp : IntKind.i64.wrap ((i : Int) - 1) = (i : Int) - 1 := w64 (by omega) (by simp only [max63] at hl; omega)
      rw [hpr] at hno
      generalize es[i - 1]'hp1.2 = y at *
      obtain ⟨yf, ye, yt⟩ := y
      simp only [Option.any_some, decide_eq_true_eq] at hno
      first | refine g_cnd Tk Tryz.func102 rfl (fun c6 => ?_) (fun c6 => ?_) | refine g_know Tk Tryz.func102 rfl (fun c6 => ?_) (fun c6 => ?_) | refine s_know Tk (fun c6 => ?_) (fun c6 => ?_)
      · have c6 : (i : Int) = 0 := beqT c6
        omega
      first | refine g_need Tk Tryz.func102 (by rw [hwp]; exact ⟨by omega, by show (i : Int) - 1 < (es.length : Int); omega⟩) ?_ | refine s_need Tk (by rw [hwp]; exact ⟨by omega, by show (i : Int) - 1 < (es.length : Int); omega⟩) ?_
      first | refine g_elem Tk Tryz.func102 (gp) ?_ | refine s_elem Tk (gp) ?_
      first | refine g_cnd Tk Tryz.func102 rfl (fun c7 => ?_) (fun c7 => ?_) | refine g_know Tk Tryz.func102 rfl (fun c7 => ?_) (fun c7 => ?_) | refine s_know Tk (fun c7 => ?_) (fun c7 => ?_)
      · have c7 : xf < yf := of_decide_eq_true c7
        rw [if_pos (.inl c7)] at hno
        subst hno
        repeat (first | refine gcT Tk Tryz.func102 rfl ?_ | refine gkT Tk Tryz.func102 rfl ?_ | refine skT Tk ?_ | refine gcF Tk Tryz.func102 rfl ?_ | refine gkF Tk Tryz.func102 rfl ?_ | refine skF Tk ?_)
        refine g_ret Tk (r := ii 5) rfl rfl rfl trivial rfl rfl ?_
        rfl
      have c7 : ¬ xf < yf := of_decide_eq_false c7
      first | refine g_cnd Tk Tryz.func102 rfl (fun c8 => ?_) (fun c8 => ?_) | refine g_know Tk Tryz.func102 rfl (fun c8 => ?_) (fun c8 => ?_) | refine s_know Tk (fun c8 => ?_) (fun c8 => ?_)
      · have c8 : xf = yf := beqT c8
        first | refine g_cnd Tk Tryz.func102 rfl (fun c9 => ?_) (fun c9 => ?_) | refine g_know Tk Tryz.func102 rfl (fun c9 => ?_) (fun c9 => ?_) | refine s_know Tk (fun c9 => ?_) (fun c9 => ?_)
        · have c9 : xe ≤ ye := of_decide_eq_true c9
          rw [if_pos (.inr ⟨c8, c9⟩)] at hno
          subst hno
          refine g_ret Tk (r := ii 5) rfl rfl rfl trivial rfl rfl ?_
          rfl
        · have c9 : ¬ xe ≤ ye := of_decide_eq_false c9
          rw [if_neg (by omega)] at hno
          refine g_loop ?_
          exact ih (i + 1, some (xf, xe, xt)) _ _ ⟨h1, hno, hnext⟩ (by simp only; omega) ⟨rfl, rfl, rfl, hi1, trivial⟩ rfl ⟨rfl, trivial⟩ rfl rfl
      · have c8 : xf ≠ yf := beqF c8
        rw [if_neg (by omega)] at hno
        repeat (first | refine gcT Tk Tryz.func102 rfl ?_ | refine gkT Tk Tryz.func102 rfl ?_ | refine skT Tk ?_ | refine gcF Tk Tryz.func102 rfl ?_ | refine gkF Tk Tryz.func102 rfl ?_ | refine skF Tk ?_)
        refine g_loop ?_
        exact ih (i + 1, some (xf, xe, xt)) _ _ ⟨h1, hno, hnext⟩ (by simp only; omega) ⟨rfl, rfl, rfl, hi1, trivial⟩ rfl ⟨rfl, trivial⟩ rfl rfl
  · have h1 : es.length ≤ i := by simpa using g1
    rw [List.drop_eq_nil_of_le h1] at hno
    simp only [chkEds] at hno
    subst hno
    refine g_ret Tk (r := ii 0) rfl rfl rfl trivial rfl rfl ?_
    rfl
theorem check116 (O : List Heap) (a : Aut) (hl : a.edges.length ≤ max63) (hal : a.alpha.length ≤ max63) (hmk : a.marked.length ≤ max63) : ASpec Tryz.prog 76 [autD a] O (ii (chkA a)) [] O := by
  have h1 := fun O => checkSet159 O a.alpha 32 hal
  have h2 := fun O => checkSet159 O a.marked a.states hmk
  have h3 := fun O => checkEdges160 O a hl hal
  generalize hR : chkA a = R
  unfold chkA at hR
  generalize checkSet 32 a.alpha none = e1 at *
  generalize checkSet a.states a.marked none = e2 at *
  generalize chkEds a.alpha a.states none a.edges = e3 at *
  obtain ⟨al, n, mk, es⟩ := a
  simp only at hR h1 h2 h3
  refine aspec_intro Tk Tryz.func76 rfl Tryz.call76 Tryz.ntmps76 (Nat.le_of_ble_eq_true rfl) fun E => ?_
  refine g_run Tk Tryz.func76 ?_
  first | refine g_call Tk Tryz.func76 (h1 _) rfl rfl rfl rfl rfl ?_ | refine s_callq Tk (fun _ => h1 _) rfl rfl rfl ?_
  first | refine g_cnd Tk Tryz.func76 rfl (fun c1 => ?_) (fun c1 => ?_) | refine g_know Tk Tryz.func76 rfl (fun c1 => ?_) (fun c1 => ?_) | refine s_know Tk (fun c1 => ?_) (fun c1 => ?_)
  · have c1 : e1 ≠ 0 := bneT c1
    rw [if_pos c1] at hR
    subst hR
    refine g_ret Tk (r := ii e1) rfl rfl rfl trivial rfl rfl ?_
    rfl
  have c1 : e1 = 0 := bneF c1
  rw [if_neg (by simpa using c1)] at hR
  first | refine g_cnd Tk Tryz.func76 rfl (fun c2 => ?_) (fun c2 => ?_) | refine g_know Tk Tryz.func76 rfl (fun c2 => ?_) (fun c2 => ?_) | refine s_know Tk (fun c2 => ?_) (fun c2 => ?_)
  · have c2 : n < 0 := of_decide_eq_true c2
    rw [if_pos c2] at hR
    subst hR
    refine g_ret Tk (r := ii 2) rfl rfl rfl trivial rfl rfl ?_
    rfl
  have c2 : ¬ n < 0 := of_decide_eq_false c2
  rw [if_neg c2] at hR
  first | refine g_cnd Tk Tryz.func76 rfl (fun c3 => ?_) (fun c3 => ?_) | refine g_know Tk Tryz.func76 rfl (fun c3 => ?_) (fun c3 => ?_) | refine s_know Tk (fun c3 => ?_) (fun c3 => ?_)
  · have c3 : n > 4096 := of_decide_eq_true c3
    rw [if_pos c3] at hR
    subst hR
    refine g_ret Tk (r := ii 3) rfl rfl rfl trivial rfl rfl ?_
    rfl
  have c3 : ¬ n > 4096 := of_decide_eq_false c3
  rw [if_neg c3] at hR
  first | refine g_call Tk Tryz.func76 (h2 _) rfl rfl rfl rfl rfl ?_ | refine s_callq Tk (fun _ => h2 _) rfl rfl rfl ?_
  first | refine g_cnd Tk Tryz.func76 rfl (fun c4 => ?_) (fun c4 => ?_) | refine g_know Tk Tryz.func76 rfl (fun c4 => ?_) (fun c4 => ?_) | refine s_know Tk (fun c4 => ?_) (fun c4 => ?_)
  · have c4 : e2 ≠ 0 := bneT c4
    rw [if_pos c4] at hR
    subst hR
    refine g_ret Tk (r := ii e2) rfl rfl rfl trivial rfl rfl ?_
    rfl
  have c4 : e2 = 0 := bneF c4
  rw [if_neg (by simpa using c4)] at hR
  subst hR
  first | refine g_call Tk Tryz.func76 (h3 _) rfl rfl rfl rfl rfl ?_ | refine s_callq Tk (fun _ => h3 _) rfl rfl rfl ?_
  refine g_ret Tk (r := ii e3) rfl rfl rfl trivial rfl rfl ?_
  rfl
end Go.AI


namespace Go.AI
open Go.Proofs
set_option maxRecDepth 20000
theorem checkSet128 (O : List Heap) (l : List Int) (n : Int) (hl : l.length ≤ max63) : ASpec Tryz.prog 128 [ints l, ii n] O (ii (checkSet n l none)) [] O := by
  generalize hR : checkSet n l none = R
  refine aspec_stop [6, 8] Tk Tryz.func128 rfl Tryz.call128 Tryz.ntmps128 (Nat.le_of_ble_eq_true rfl) fun E => ?_
  refine g_run Tk Tryz.func128 ?_
  refine g_loop ?_
  refine rch_loop2 (fun x : Nat × Option Int => [(0, ints l), (1, ii n), (7, ints l), (8, ii l.length), (9, ii x.1)]) (fun _ => []) (fun _ => O) 35
    (fun x => x.1 ≤ l.length ∧ checkSet n (l.drop x.1) x.2 = R ∧ ((x.1 = 0 ∧ x.2 = none) ∨ ∃ h : 0 < x.1 ∧ x.1 - 1 < l.length, x.2 = some (l[x.1 - 1]'h.2))) (fun x => l.length - x.1) (0, none) ⟨Nat.zero_le _, hR, .inl ⟨rfl, rfl⟩⟩ ⟨rfl, rfl, rfl, rfl, rfl, trivial⟩ rfl trivial rfl rfl ?_
  rintro ⟨i, prev⟩ ⟨hi, hno, hp⟩ ih
  simp only at hi hno hp
  clear hR
  refine g_run Tk Tryz.func128 ?_
  first | refine g_cnd Tk Tryz.func128 rfl (fun g1 => ?_) (fun g1 => ?_) | refine g_know Tk Tryz.func128 rfl (fun g1 => ?_) (fun g1 => ?_) | refine s_know Tk (fun g1 => ?_) (fun g1 => ?_)
  · have h1 : i < l.length := by simpa using g1
    have gl : (l.map fun x => [vi x])[(i : Int).toNat]? = some [vi l[i]] := get_mapZ (f := fun x => [vi x]) h1
    have dl : l.drop i = l[i] :: l.drop (i + 1) := List.drop_eq_getElem_cons h1
    rw [dl] at hno
    simp only [checkSet] at hno
    clear dl
    have hi1 : ii (IntKind.i64.wrap ((i : Int) + 1)) = ii ((i + 1 : Nat) : Int) := congrArg ii (wsucc h1 hl)
    have hnext : (i + 1 = 0 ∧ some l[i] = none) ∨ ∃ h : 0 < i + 1 ∧ i + 1 - 1 < l.length, some l[i] = some (l[i + 1 - 1]'h.2) := .inr ⟨⟨by omega, by omega⟩, rfl⟩
    generalize hx : l[i] = x at *
    first | refine g_need Tk Tryz.func128 (by exact ⟨by omega, by show (i : Int) < (l.length : Int); omega⟩) ?_ | refine s_need Tk (by exact ⟨by omega, by show (i : Int) < (l.length : Int); omega⟩) ?_
    first | refine g_elem Tk Tryz.func128 (gl) ?_ | refine s_elem Tk (gl) ?_
    apply join_p (P := ¬ (x < 0 ∨ x ≥ n)) (s6 := { σ := [(0, ints l), (1, ii n), (5, ii i), (6, ii x), (7, ints l), (8, ii l.length), (9, ii i)], S := [] :: O, n := 35 })
    · intro J
      first | refine g_cnd Tk Tryz.func128 rfl (fun c1 => ?_) (fun c1 => ?_) | refine g_know Tk Tryz.func128 rfl (fun c1 => ?_) (fun c1 => ?_) | refine s_know Tk (fun c1 => ?_) (fun c1 => ?_)
      · have c1 : x < 0 := of_decide_eq_true c1
        rw [if_pos (.inl c1)] at hno
        subst hno
        repeat (first | refine gcT Tk Tryz.func128 rfl ?_ | refine gkT Tk Tryz.func128 rfl ?_ | refine skT Tk ?_ | refine gcF Tk Tryz.func128 rfl ?_ | refine gkF Tk Tryz.func128 rfl ?_ | refine skF Tk ?_)
        refine g_ret Tk (r := ii 2) rfl rfl rfl trivial rfl rfl ?_
        rfl
      have c1 : ¬ x < 0 := of_decide_eq_false c1
      first | refine g_cnd Tk Tryz.func128 rfl (fun c2 => ?_) (fun c2 => ?_) | refine g_know Tk Tryz.func128 rfl (fun c2 => ?_) (fun c2 => ?_) | refine s_know Tk (fun c2 => ?_) (fun c2 => ?_)
      · have c2 : x ≥ n := of_decide_eq_true c2
        rw [if_pos (.inr c2)] at hno
        subst hno
        refine g_ret Tk (r := ii 2) rfl rfl rfl trivial rfl rfl ?_
        rfl
      have c2 : ¬ x ≥ n := of_decide_eq_false c2
      refine g_stop ?_
      refine rch_meet (J (by rintro (h | h); exact c1 h; exact c2 h)) ⟨rfl, rfl, rfl, rfl, rfl, rfl, rfl, trivial⟩ rfl trivial rfl rfl
    · intro hc
      rw [if_neg hc] at hno
      refine g_run Tk Tryz.func128 ?_
      refine g_go Tk Tryz.func128 ?_
      rcases hp with ⟨h0, hpr⟩ | ⟨hp1, hpr⟩
      · rw [hpr] at hno
        rw [if_neg (by simp)] at hno
        first | refine g_cnd Tk Tryz.func128 rfl (fun c3 => ?_) (fun c3 => ?_) | refine g_know Tk Tryz.func128 rfl (fun c3 => ?_) (fun c3 => ?_) | refine s_know Tk (fun c3 => ?_) (fun c3 => ?_)
        · have c3 : (i : Int) > 0 := of_decide_eq_true c3
          omega
        repeat (first | refine gcT Tk Tryz.func128 rfl ?_ | refine gkT Tk Tryz.func128 rfl ?_ | refine skT Tk ?_ | refine gcF Tk Tryz.func128 rfl ?_ | refine gkF Tk Tryz.func128 rfl ?_ | refine skF Tk ?_)
        refine g_stop ?_
        refine g_run Tk Tryz.func128 ?_
        refine g_go Tk Tryz.func128 ?_
        refine g_loop ?_
        exact ih (i + 1, some x) _ _ ⟨h1, hno, hnext⟩ (by simp only; omega) ⟨rfl, rfl, rfl, rfl, hi1, trivial⟩ rfl trivial rfl rfl
      · have gp : (l.map fun x => [vi x])[(IntKind.i64.wrap ((i : Int) - 1)).toNat]? = some [vi (l[i - 1]'hp1.2)] := by
          rw [w64 (by omega) (by simp only [max63] at hl; omega), show ((i : Int) - 1).toNat = i - 1 by omega]
          rw [List.getElem?_map, List.getElem?_eq_getElem hp1.2]
          rfl
        have hwp : IntKind.i64.wrap ((i : Int) - 1) = (i : Int) - 1 := w64 (by omega) (by simp only [max63] at hl; omega)
        generalize l[i - 1]'hp1.2 = y at *
        first | refine g_cnd Tk Tryz.func128 rfl (fun c3 => ?_) (fun c3 => ?_) | refine g_know Tk Tryz.func128 rfl (fun c3 => ?_) (fun c3 => ?_) | refine s_know Tk (fun c3 => ?_) (fun c3 => ?_)
        rotate_left
        · have c3 : ¬ (i : Int) > 0 := of_decide_eq_false c3
          omega
        first | refine g_need Tk Tryz.func128 (by rw [hwp]; exact ⟨by omega, by show (i : Int) - 1 < (l.length : Int); omega⟩) ?_ | refine s_need Tk (by rw [hwp]; exact ⟨by omega, by show (i : Int) - 1 < (l.length : Int); omega⟩) ?_
        first | refine g_elem Tk Tryz.func128 (gp) ?_ | refine s_elem Tk (gp) ?_
        rw [hpr] at hno
        first | refine g_cnd Tk Tryz.func128 rfl (fun c4 => ?_) (fun c4 => ?_) | refine g_know Tk Tryz.func128 rfl (fun c4 => ?_) (fun c4 => ?_) | refine s_know Tk (fun c4 => ?_) (fun c4 => ?_)
        · have c4 : x ≤ y := of_decide_eq_true c4
          rw [if_pos (by simpa using c4)] at hno
          subst hno
          refine g_ret Tk (r := ii 5) rfl rfl rfl trivial rfl rfl ?_
          rfl
        have c4 : ¬ x ≤ y := of_decide_eq_false c4
        rw [if_neg (by simpa using c4)] at hno
        refine g_stop ?_
        refine g_run Tk Tryz.func128 ?_
        refine g_go Tk Tryz.func128 ?_
        refine g_loop ?_
        exact ih (i + 1, some x) _ _ ⟨h1, hno, hnext⟩ (by simp only; omega) ⟨rfl, rfl, rfl, rfl, hi1, trivial⟩ rfl trivial rfl rfl
  · have h1 : l.length ≤ i := by simpa using g1
    rw [List.drop_eq_nil_of_le h1] at hno
    simp only [checkSet] at hno
    subst hno
    refine g_ret Tk (r := ii 0) rfl rfl rfl trivial rfl rfl ?_
    rfl
theorem pcheck106 (O : List Heap) (a : Aut) (on : List Int) (hl : a.edges.length ≤ max63) (hal : a.alpha.length ≤ max63) (hmk : a.marked.length ≤ max63) (hon : on.length ≤ max63) : ASpec Tryz.prog 106 [autD a, ints on] O (ii (if chkA a ≠ 0 then chkA a else checkSet 32 on none)) [] O := by
  have h := fun O => check116 O a hl hal hmk
  generalize chkA a = e at *
  obtain ⟨al, n, mk, es⟩ := a
  refine aspec_intro Tk Tryz.func106 rfl Tryz.call106 Tryz.ntmps106 (Nat.le_of_ble_eq_true rfl) fun E => ?_
  refine g_run Tk Tryz.func106 ?_
  first | refine g_call Tk Tryz.func106 (h _) rfl rfl rfl rfl rfl ?_ | refine s_callq Tk (fun _ => h _) rfl rfl rfl ?_
  first | refine g_cnd Tk Tryz.func106 rfl (fun c1 => ?_) (fun c1 => ?_) | refine g_know Tk Tryz.func106 rfl (fun c1 => ?_) (fun c1 => ?_) | refine s_know Tk (fun c1 => ?_) (fun c1 => ?_)
  · have c1 : e ≠ 0 := bneT c1
    refine g_ret Tk (r := ii e) rfl rfl rfl trivial rfl rfl ?_
    rw [if_pos c1]
  · have c1 : e = 0 := bneF c1
    first | refine g_call Tk Tryz.func106 (checkSet128 _ on 32 hon) rfl rfl rfl rfl rfl ?_ | refine s_callq Tk (fun _ => checkSet128 _ on 32 hon) rfl rfl rfl ?_
    refine g_ret Tk (r := ii (checkSet 32 on none)) rfl rfl rfl trivial rfl rfl ?_
    rw [if_neg (by simp [c1])]
end Go.AI


namespace Go.AI
open Go.Proofs
set_option maxRecDepth 20000
theorem has30 (O : List Heap) (l : List Int) (x : Int) (hl : l.length ≤ max63) : ASpec Tryz.prog 30 [ints l, ii x] O (bb (decide (x ∈ l))) [] O := by
  have hR : decide (x ∈ l) = decide (x ∈ l.drop 0) := rfl
  generalize decide (x ∈ l) = R at *
  refine aspec_intro Tk Tryz.func30 rfl Tryz.call30 Tryz.ntmps30 (Nat.le_of_ble_eq_true rfl) fun E => ?_
  refine g_run Tk Tryz.func30 ?_
  refine g_loop ?_
  refine rch_loop2 (fun i : Nat => [(0, ints l), (1, ii x), (5, ii i)]) (fun _ => []) (fun _ => O) 18
    (fun i => i ≤ l.length ∧ R = decide (x ∈ l.drop i)) (fun i => l.length - i) 0 ⟨Nat.zero_le _, hR⟩ ⟨rfl, rfl, rfl, trivial⟩ rfl trivial rfl rfl ?_
  rintro i ⟨hi, hno⟩ ih
  clear hR
  refine g_run Tk Tryz.func30 ?_
  first | refine g_cnd Tk Tryz.func30 rfl (fun g1 => ?_) (fun g1 => ?_) | refine g_know Tk Tryz.func30 rfl (fun g1 => ?_) (fun g1 => ?_) | refine s_know Tk (fun g1 => ?_) (fun g1 => ?_)
  · have h1 : i < l.length := by simpa using g1
    have gl : (l.map fun x => [vi x])[(i : Int).toNat]? = some [vi l[i]] := get_mapZ (f := fun x => [vi x]) h1
    have dl : l.drop i = l[i] :: l.drop (i + 1) := List.drop_eq_getElem_cons h1
    simp only [dl, List.mem_cons] at hno
    clear dl
    generalize l[i] = y at *
    first | refine g_need Tk Tryz.func30 (by exact ⟨by omega, by show (i : Int) < (l.length : Int); omega⟩) ?_ | refine s_need Tk (by exact ⟨by omega, by show (i : Int) < (l.length : Int); omega⟩) ?_
    first | refine g_elem Tk Tryz.func30 (gl) ?_ | refine s_elem Tk (gl) ?_
    first | refine g_cnd Tk Tryz.func30 rfl (fun g2 => ?_) (fun g2 => ?_) | refine g_know Tk Tryz.func30 rfl (fun g2 => ?_) (fun g2 => ?_) | refine s_know Tk (fun g2 => ?_) (fun g2 => ?_)
    · have g2 : y = x := beqT g2
      subst g2
      refine g_ret Tk (r := bb true) rfl rfl rfl trivial rfl rfl ?_
      rw [hno]
      simp
    · have g2 : y ≠ x := beqF g2
      have hno : R = decide (x ∈ l.drop (i + 1)) := by
        rw [hno]
        exact decide_eq_decide.2 ⟨fun h => h.resolve_left (Ne.symm g2), .inr⟩
      refine g_loop ?_
      exact ih (i + 1) _ _ ⟨h1, hno⟩ (by omega) ⟨rfl, rfl, congrArg ii (wsucc h1 hl), trivial⟩ rfl trivial rfl rfl
  · have h1 : l.length ≤ i := by simpa using g1
    simp only [List.drop_eq_nil_of_le h1] at hno
    refine g_ret Tk (r := bb false) rfl rfl rfl trivial rfl rfl ?_
    rw [hno]
    simp
theorem has55 (O : List Heap) (l : List Int) (x : Int) (hl : l.length ≤ max63) : ASpec Tryz.prog 55 [ints l, ii x] O (bb (decide (x ∈ l))) [] O := by
  have hR : decide (x ∈ l) = decide (x ∈ l.drop 0) := rfl
  generalize decide (x ∈ l) = R at *
  refine aspec_intro Tk Tryz.func55 rfl Tryz.call55 Tryz.ntmps55 (Nat.le_of_ble_eq_true rfl) fun E => ?_
  refine g_run Tk Tryz.func55 ?_
  refine g_loop ?_
  refine rch_loop2 (fun i : Nat => [(0, ints l), (1, ii x), (5, ii i)]) (fun _ => []) (fun _ => O) 18
    (fun i => i ≤ l.length ∧ R = decide (x ∈ l.drop i)) (fun i => l.length - i) 0 ⟨Nat.zero_le _, hR⟩ ⟨rfl, rfl, rfl, trivial⟩ rfl trivial rfl rfl ?_
  rintro i ⟨hi, hno⟩ ih
  clear hR
  refine g_run Tk Tryz.func55 ?_
  first | refine g_cnd Tk Tryz.func55 rfl (fun g1 => ?_) (fun g1 => ?_) | refine g_know Tk Tryz.func55 rfl (fun g1 => ?_) (fun g1 => ?_) | refine s_know Tk (fun g1 => ?_) (fun g1 => ?_)
  · have h1 : i < l.length := by simpa using g1
    have gl : (l.map fun x => [vi x])[(i : Int).toNat]? = some [vi l[i]] := get_mapZ (f := fun x => [vi x]) h1
    have dl : l.drop i = l[i] :: l.drop (i + 1) := List.drop_eq_getElem_cons h1
    simp only [dl, List.mem_cons] at hno
    clear dl
    generalize l[i] = y at *
    first | refine g_need Tk Tryz.func55 (by exact ⟨by omega, by show (i : Int) < (l.length : Int); omega⟩) ?_ | refine s_need Tk (by exact ⟨by omega, by show (i : Int) < (l.length : Int); omega⟩) ?_
    first | refine g_elem Tk Tryz.func55 (gl) ?_ | refine s_elem Tk (gl) ?_
    first | refine g_cnd Tk Tryz.func55 rfl (fun g2 => ?_) (fun g2 => ?_) | refine g_know Tk Tryz.func55 rfl (fun g2 => ?_) (fun g2 => ?_) | refine s_know Tk (fun g2 => ?_) (fun g2 => ?_)
    · have g2 : y = x := beqT g2
      subst g2
      refine g_ret Tk (r := bb true) rfl rfl rfl trivial rfl rfl ?_
      rw [hno]
      simp
    · have g2 : y ≠ x := beqF g2
      have hno : R = decide (x ∈ l.drop (i + 1)) := by
        rw [hno]
        exact decide_eq_decide.2 ⟨fun h => h.resolve_left (Ne.symm g2), .inr⟩
      refine g_loop ?_
      exact ih (i + 1) _ _ ⟨h1, hno⟩ (by omega) ⟨rfl, rfl, congrArg ii (wsucc h1 hl), trivial⟩ rfl trivial rfl rfl
  · have h1 : l.length ≤ i := by simpa using g1
    simp only [List.drop_eq_nil_of_le h1] at hno
    refine g_ret Tk (r := bb false) rfl rfl rfl trivial rfl rfl ?_
    rw [hno]
    simp
theorem kept29 (O : List Heap) (a : Aut) (on : List Int) (hal : a.alpha.length ≤ 1000000) (hon : on.length ≤ max63) : ASpec Tryz.prog 29 [autD a, ints on] O (ints (a.alpha.filter fun x => decide (x ∈ on))) [] O := by
  obtain ⟨al, n, mk, es⟩ := a
  simp only at hal ⊢
  generalize hK : al.filter (fun x => decide (x ∈ on)) = KK
  refine aspec_stop [7] Tk Tryz.func29 rfl Tryz.call29 Tryz.ntmps29 (Nat.le_of_ble_eq_true rfl) fun E => ?_
  refine g_run Tk Tryz.func29 ?_
  refine g_loop ?_
  refine rch_wk (wk_nil 5 28 3 1 rfl rfl rfl) ?_
  refine rch_loop2 (fun x : Nat × List Int => [(1, ints on), (2, .own 0 2 0 0), (5, .osl 0 28), (6, ii x.1)]) (fun x => [(2, .box [ints al, ii n, ints mk, edgs es]), (28, oints x.2)]) (fun _ => O) 30
    (fun x => x.1 ≤ al.length ∧ x.2.length ≤ x.1 ∧ x.2 ++ (al.drop x.1).filter (fun x => decide (x ∈ on)) = KK) (fun x => al.length - x.1) (0, []) ⟨Nat.zero_le _, Nat.le_refl _, by simpa using hK⟩ ⟨rfl, rfl, rfl, rfl, trivial⟩ rfl ⟨rfl, rfl, trivial⟩ rfl rfl ?_
  rintro ⟨i, kp⟩ ⟨hi, hkl, hno⟩ ih
  simp only at hi hkl hno
  refine g_run Tk Tryz.func29 ?_
  first | refine g_cnd Tk Tryz.func29 rfl (fun g2 => ?_) (fun g2 => ?_) | refine g_know Tk Tryz.func29 rfl (fun g2 => ?_) (fun g2 => ?_) | refine s_know Tk (fun g2 => ?_) (fun g2 => ?_)
  · have h3 : i < al.length := by simpa using g2
    have ga : (al.map fun x => [vi x])[(i : Int).toNat]? = some [vi al[i]] := get_mapZ h3
    rw [List.drop_eq_getElem_cons h3, List.filter_cons] at hno
    generalize al[i] = x at *
    first | refine g_need Tk Tryz.func29 (by exact ⟨by omega, by show (i : Int) < (al.length : Int); omega⟩) ?_ | refine s_need Tk (by exact ⟨by omega, by show (i : Int) < (al.length : Int); omega⟩) ?_
    first | refine g_elem Tk Tryz.func29 (ga) ?_ | refine s_elem Tk (ga) ?_
    first | refine g_call Tk Tryz.func29 (has55 _ on x hon) rfl rfl rfl rfl rfl ?_ | refine s_callq Tk (fun _ => has55 _ on x hon) rfl rfl rfl ?_
    first | refine g_cnd Tk Tryz.func29 rfl (fun g3 => ?_) (fun g3 => ?_) | refine g_know Tk Tryz.func29 rfl (fun g3 => ?_) (fun g3 => ?_) | refine s_know Tk (fun g3 => ?_) (fun g3 => ?_)
    · have g3 : (decide (x ∈ on)) = true := g3
      rw [if_pos g3] at hno
      first | refine g_need Tk Tryz.func29 (by exact ⟨by omega, by show (i : Int) < (al.length : Int); omega⟩) ?_ | refine s_need Tk (by exact ⟨by omega, by show (i : Int) < (al.length : Int); omega⟩) ?_
      first | refine g_elem Tk Tryz.func29 (ga) ?_ | refine s_elem Tk (ga) ?_
      first | refine g_need Tk Tryz.func29 (by exact ⟨by show (kp.length + 1) * 8 ≤ 140737488355328; omega, by show kp.length + 1 ≤ 9223372036854775807; omega⟩) ?_ | refine s_need Tk (by exact ⟨by show (kp.length + 1) * 8 ≤ 140737488355328; omega, by show kp.length + 1 ≤ 9223372036854775807; omega⟩) ?_
      refine g_loop ?_
      refine ih (i + 1, kp ++ [x]) _ _ ⟨h3, by simp; omega, by simpa using hno⟩ (by simp only; omega) ⟨rfl, rfl, rfl, congrArg ii (wsucc (n := 1000000) (by omega) (by decide)), trivial⟩ rfl ⟨rfl, ?_, trivial⟩ rfl rfl
      show some (Ob.arr 3 1 (kp.length + 1) ((kp.map fun x => [vi x]) ++ [[vi x]]) true) = some (oints (kp ++ [x]))
      simp
    · have g3 : (decide (x ∈ on)) = false := g3
      rw [if_neg (by rw [g3]; decide)] at hno
      refine g_loop ?_
      exact ih (i + 1, kp) _ _ ⟨h3, by simp only; omega, hno⟩ (by simp only; omega) ⟨rfl, rfl, rfl, congrArg ii (wsucc (n := 1000000) (by omega) (by decide)), trivial⟩ rfl ⟨rfl, rfl, trivial⟩ rfl rfl
  · have h3 : al.length ≤ i := by simpa using g2
    rw [List.drop_eq_nil_of_le h3] at hno
    simp only [List.filter_nil, List.append_nil] at hno
    subst hno
    refine g_stop ?_
    refine rch_wk (wk_freeze 28 rfl rfl) ?_
    refine g_run Tk Tryz.func29 ?_
    refine g_go Tk Tryz.func29 ?_
    refine g_ret Tk (r := ints kp) rfl rfl rfl trivial rfl rfl ?_
    rfl
theorem erased74 (O : List Heap) (a : Aut) (on : List Int) (hal : a.alpha.length ≤ 1000000) (hon : on.length ≤ max63) : ASpec Tryz.prog 74 [autD a, ints on] O (ints (a.alpha.filter fun x => !decide (x ∈ on))) [] O := by
  obtain ⟨al, n, mk, es⟩ := a
  simp only at hal ⊢
  generalize hK : al.filter (fun x => !decide (x ∈ on)) = KK
  refine aspec_stop [7] Tk Tryz.func74 rfl Tryz.call74 Tryz.ntmps74 (Nat.le_of_ble_eq_true rfl) fun E => ?_
  refine g_run Tk Tryz.func74 ?_
  refine g_loop ?_
  refine rch_wk (wk_nil 5 29 3 1 rfl rfl rfl) ?_
  refine rch_loop2 (fun x : Nat × List Int => [(1, ints on), (2, .own 0 2 0 0), (5, .osl 0 29), (6, ii x.1)]) (fun x => [(2, .box [ints al, ii n, ints mk, edgs es]), (29, oints x.2)]) (fun _ => O) 31
    (fun x => x.1 ≤ al.length ∧ x.2.length ≤ x.1 ∧ x.2 ++ (al.drop x.1).filter (fun x => !decide (x ∈ on)) = KK) (fun x => al.length - x.1) (0, []) ⟨Nat.zero_le _, Nat.le_refl _, by simpa using hK⟩ ⟨rfl, rfl, rfl, rfl, trivial⟩ rfl ⟨rfl, rfl, trivial⟩ rfl rfl ?_
  rintro ⟨i, kp⟩ ⟨hi, hkl, hno⟩ ih
  simp only at hi hkl hno
  refine g_run Tk Tryz.func74 ?_
  first | refine g_cnd Tk Tryz.func74 rfl (fun g2 => ?_) (fun g2 => ?_) | refine g_know Tk Tryz.func74 rfl (fun g2 => ?_) (fun g2 => ?_) | refine s_know Tk (fun g2 => ?_) (fun g2 => ?_)
  · have h3 : i < al.length := by simpa using g2
    have ga : (al.map fun x => [vi x])[(i : Int).toNat]? = some [vi al[i]] := get_mapZ h3
    rw [List.drop_eq_getElem_cons h3, List.filter_cons] at hno
    generalize al[i] = x at *
    first | refine g_need Tk Tryz.func74 (by exact ⟨by omega, by show (i : Int) < (al.length : Int); omega⟩) ?_ | refine s_need Tk (by exact ⟨by omega, by show (i : Int) < (al.length : Int); omega⟩) ?_
    first | refine g_elem Tk Tryz.func74 (ga) ?_ | refine s_elem Tk (ga) ?_
    first | refine g_call Tk Tryz.func74 (has55 _ on x hon) rfl rfl rfl rfl rfl ?_ | refine s_callq Tk (fun _ => has55 _ on x hon) rfl rfl rfl ?_
    first | refine g_cnd Tk Tryz.func74 rfl (fun g3 => ?_) (fun g3 => ?_) | refine g_know Tk Tryz.func74 rfl (fun g3 => ?_) (fun g3 => ?_) | refine s_know Tk (fun g3 => ?_) (fun g3 => ?_)
    · have g3 : (!decide (x ∈ on)) = true := g3
      rw [if_pos g3] at hno
      first | refine g_need Tk Tryz.func74 (by exact ⟨by omega, by show (i : Int) < (al.length : Int); omega⟩) ?_ | refine s_need Tk (by exact ⟨by omega, by show (i : Int) < (al.length : Int); omega⟩) ?_
      first | refine g_elem Tk Tryz.func74 (ga) ?_ | refine s_elem Tk (ga) ?_
      first | refine g_need Tk Tryz.func74 (by exact ⟨by show (kp.length + 1) * 8 ≤ 140737488355328; omega, by show kp.length + 1 ≤ 9223372036854775807; omega⟩) ?_ | refine s_need Tk (by exact ⟨by show (kp.length + 1) * 8 ≤ 140737488355328; omega, by show kp.length + 1 ≤ 9223372036854775807; omega⟩) ?_
      refine g_loop ?_
      refine ih (i + 1, kp ++ [x]) _ _ ⟨h3, by simp; omega, by simpa using hno⟩ (by simp only; omega) ⟨rfl, rfl, rfl, congrArg ii (wsucc (n := 1000000) (by omega) (by decide)), trivial⟩ rfl ⟨rfl, ?_, trivial⟩ rfl rfl
      show some (Ob.arr 3 1 (kp.length + 1) ((kp.map fun x => [vi x]) ++ [[vi x]]) true) = some (oints (kp ++ [x]))
      simp
    · have g3 : (!decide (x ∈ on)) = false := g3
      rw [if_neg (by rw [g3]; decide)] at hno
      refine g_loop ?_
      exact ih (i + 1, kp) _ _ ⟨h3, by simp only; omega, hno⟩ (by simp only; omega) ⟨rfl, rfl, rfl, congrArg ii (wsucc (n := 1000000) (by omega) (by decide)), trivial⟩ rfl ⟨rfl, rfl, trivial⟩ rfl rfl
  · have h3 : al.length ≤ i := by simpa using g2
    rw [List.drop_eq_nil_of_le h3] at hno
    simp only [List.filter_nil, List.append_nil] at hno
    subst hno
    refine g_stop ?_
    refine rch_wk (wk_freeze 29 rfl rfl) ?_
    refine g_run Tk Tryz.func74 ?_
    refine g_go Tk Tryz.func74 ?_
    refine g_ret Tk (r := ints kp) rfl rfl rfl trivial rfl rfl ?_
    rfl
end Go.AI


namespace Go.AI
open Go.Proofs
set_option maxRecDepth 20000
end Go.AI


namespace Go.AI
open Go.Proofs
set_option maxRecDepth 20000
def sortedBelow (l : List Int) (n : Nat) : List Int := ((List.range n).map fun (i : Nat) => (i : Int)).filter fun x => decide (x ∈ l)
theorem sortedBelow_succ (l : List Int) (n : Nat) : sortedBelow l (n + 1) = sortedBelow l n ++ if (n : Int) ∈ l then [(n : Int)] else [] := by
  simp only [sortedBelow, List.range_succ, List.map_append, List.filter_append, List.map_cons, List.map_nil, List.filter_cons, List.filter_nil, decide_eq_true_eq]
theorem sortedBelow_len (l : List Int) (n : Nat) : (sortedBelow l n).length ≤ n := by
  unfold sortedBelow
  refine Nat.le_trans (List.length_filter_le _ _) ?_
  simp
theorem sorted56 (O : List Heap) (l : List Int) (n : Nat) (hn : n ≤ 1000000) (hl : l.length ≤ max63) : ASpec Tryz.prog 56 [ints l, ii n] O (ints (sortedBelow l n)) [] O := by
  refine aspec_stop [7] Tk Tryz.func56 rfl Tryz.call56 Tryz.ntmps56 (Nat.le_of_ble_eq_true rfl) fun E => ?_
  refine g_run Tk Tryz.func56 ?_
  refine g_loop ?_
  refine rch_wk (wk_nil 5 18 3 1 rfl rfl rfl) ?_
  refine rch_loop2 (fun i : Nat => [(0, ints l), (1, ii n), (5, .osl 0 18), (6, ii i)]) (fun i => [(18, oints (sortedBelow l i))]) (fun _ => O) 20
    (fun i => i ≤ n) (fun i => n - i) 0 (Nat.zero_le _) ⟨rfl, rfl, rfl, rfl, trivial⟩ rfl ⟨rfl, trivial⟩ rfl rfl ?_
  rintro i hi ih
  have hsl := sortedBelow_len l i
  have hsu := sortedBelow_succ l i
  refine g_run Tk Tryz.func56 ?_
  first | refine g_cnd Tk Tryz.func56 rfl (fun g1 => ?_) (fun g1 => ?_) | refine g_know Tk Tryz.func56 rfl (fun g1 => ?_) (fun g1 => ?_) | refine s_know Tk (fun g1 => ?_) (fun g1 => ?_)
  · have h1 : i < n := by simpa using g1
    first | refine g_call Tk Tryz.func56 (has55 _ l (i : Int) hl) rfl rfl rfl rfl rfl ?_ | refine s_callq Tk (fun _ => has55 _ l (i : Int) hl) rfl rfl rfl ?_
    first | refine g_cnd Tk Tryz.func56 rfl (fun g2 => ?_) (fun g2 => ?_) | refine g_know Tk Tryz.func56 rfl (fun g2 => ?_) (fun g2 => ?_) | refine s_know Tk (fun g2 => ?_) (fun g2 => ?_)
    · have g2 : (i : Int) ∈ l := of_decide_eq_true g2
      rw [if_pos g2] at hsu
      first | refine g_need Tk Tryz.func56 (by exact ⟨by show ((sortedBelow l i).length + 1) * 8 ≤ 140737488355328; omega, by show (sortedBelow l i).length + 1 ≤ 9223372036854775807; omega⟩) ?_ | refine s_need Tk (by exact ⟨by show ((sortedBelow l i).length + 1) * 8 ≤ 140737488355328; omega, by show (sortedBelow l i).length + 1 ≤ 9223372036854775807; omega⟩) ?_
      refine g_loop ?_
      refine ih (i + 1) _ _ h1 (by omega) ⟨rfl, rfl, rfl, congrArg ii (wsucc (n := 1000000) (by omega) (by decide)), trivial⟩ rfl ⟨?_, trivial⟩ rfl rfl
      show some (Ob.arr 3 1 ((sortedBelow l i).length + 1) (((sortedBelow l i).map fun x => [vi x]) ++ [[vi (i : Int)]]) true) = some (oints (sortedBelow l (i + 1)))
      rw [hsu]
      simp
    · have g2 : ¬ (i : Int) ∈ l := of_decide_eq_false g2
      rw [if_neg g2, List.append_nil] at hsu
      refine g_loop ?_
      refine ih (i + 1) _ _ h1 (by omega) ⟨rfl, rfl, rfl, congrArg ii (wsucc (n := 1000000) (by omega) (by decide)), trivial⟩ rfl ⟨?_, trivial⟩ rfl rfl
      show some (oints (sortedBelow l i)) = some (oints (sortedBelow l (i + 1)))
      rw [hsu]
  · have h1 : i = n := by
      have : n ≤ i := by simpa using g1
      omega
    subst h1
    refine g_stop ?_
    refine rch_wk (wk_freeze 18 rfl rfl) ?_
    refine g_run Tk Tryz.func56 ?_
    refine g_go Tk Tryz.func56 ?_
    refine g_ret Tk (r := ints (sortedBelow l i)) rfl rfl rfl trivial rfl rfl ?_
    rfl
end Go.AI


namespace Go.AI
open Go.Proofs
set_option maxRecDepth 20000
theorem sameInts36 (O : List Heap) (a b : List Int) (ha : a.length ≤ max63) : ASpec Tryz.prog 15 [ints a, ints b] O (bb (decide (a = b))) [] O := by
  refine aspec_intro Tk Tryz.func15 rfl Tryz.call15 Tryz.ntmps15 (Nat.le_of_ble_eq_true rfl) fun E => ?_
  refine g_run Tk Tryz.func15 ?_
  first | refine g_cnd Tk Tryz.func15 rfl (fun h1 => ?_) (fun h1 => ?_) | refine g_know Tk Tryz.func15 rfl (fun h1 => ?_) (fun h1 => ?_) | refine s_know Tk (fun h1 => ?_) (fun h1 => ?_)
  · have h1 := bneT h1
    rw [decide_eq_false fun e => h1 (by rw [e])]
    refine g_ret Tk (r := bb false) rfl rfl rfl trivial rfl rfl ?_
    rfl
  have h1 := bneF h1
  have hlen : a.length = b.length := by
    have : ((a.length : Nat) : Int) = b.length := by simpa using h1
    omega
  refine g_loop ?_
  refine rch_loop2 (fun i : Nat => [(0, ints a), (1, ints b), (5, ii i)]) (fun _ => []) (fun _ => O) 26
    (fun i => i ≤ a.length ∧ ∀ (j : Nat) (h : j < a.length), j < i → a[j] = b[j]'(by omega)) (fun i => a.length - i) 0 ⟨Nat.zero_le _, fun j _ h => by omega⟩ ⟨rfl, rfl, rfl, trivial⟩ rfl trivial rfl rfl ?_
  rintro i ⟨hi, hno⟩ ih
  refine g_run Tk Tryz.func15 ?_
  first | refine g_cnd Tk Tryz.func15 rfl (fun h2 => ?_) (fun h2 => ?_) | refine g_know Tk Tryz.func15 rfl (fun h2 => ?_) (fun h2 => ?_) | refine s_know Tk (fun h2 => ?_) (fun h2 => ?_)
  · have h2 : i < a.length := by simpa using h2
    have ga : (a.map fun x => [vi x])[(i : Int).toNat]? = some [(fun x => vi x) a[i]] := get_mapZ (f := fun x => [vi x]) h2
    have gb : (b.map fun x => [vi x])[(i : Int).toNat]? = some [(fun x => vi x) (b[i]'(by omega))] := get_mapZ (f := fun x => [vi x]) (by omega)
    have hne : a[i] ≠ b[i]'(by omega) → a ≠ b := fun h e => by subst e; exact h rfl
    have hstep : a[i] = b[i]'(by omega) → ∀ (j : Nat) (h : j < a.length), j < i + 1 → a[j] = b[j]'(by omega) := fun h j hj hji => by
      by_cases e : j = i
      · subst e; exact h
      · exact hno j hj (by omega)
    generalize a[i] = x at *
    generalize b[i]'(by omega) = y at *
    refine g_drawn Tk Tryz.func15 mixedT rfl ?_
    first | refine g_need Tk Tryz.func15 (by exact ⟨by omega, by show (i : Int) < (a.length : Int); omega⟩) ?_ | refine s_need Tk (by exact ⟨by omega, by show (i : Int) < (a.length : Int); omega⟩) ?_
    first | refine g_elem Tk Tryz.func15 (ga) ?_ | refine s_elem Tk (ga) ?_
    first | refine g_need Tk Tryz.func15 (by exact ⟨by omega, by show (i : Int) < (b.length : Int); omega⟩) ?_ | refine s_need Tk (by exact ⟨by omega, by show (i : Int) < (b.length : Int); omega⟩) ?_
    first | refine g_elem Tk Tryz.func15 (gb) ?_ | refine s_elem Tk (gb) ?_
    refine e_done Tk Tryz.func15 (by kernel_rfl) ?_
    first | refine g_cnd Tk Tryz.func15 rfl (fun h3 => ?_) (fun h3 => ?_) | refine g_know Tk Tryz.func15 rfl (fun h3 => ?_) (fun h3 => ?_) | refine s_know Tk (fun h3 => ?_) (fun h3 => ?_)
    · have h3 : x ≠ y := by simpa using h3
      rw [decide_eq_false (hne h3)]
      refine g_ret Tk (r := bb false) rfl rfl rfl trivial rfl rfl ?_
      rfl
    · have h3 : x = y := by simpa using h3
      refine g_loop ?_
      exact ih (i + 1) _ _ ⟨h2, hstep h3⟩ (by omega) ⟨rfl, rfl, congrArg ii (wsucc h2 ha), trivial⟩ rfl trivial rfl rfl
  · have h2 : a.length ≤ i := by simpa using h2
    have : a = b := List.ext_getElem hlen fun j h h' => hno j h (by omega)
    rw [decide_eq_true this]
    refine g_ret Tk (r := bb true) rfl rfl rfl trivial rfl rfl ?_
    rfl
end Go.AI


namespace Go.AI
open Go.Proofs
set_option maxRecDepth 20000
theorem has118 (O : List Heap) (l : List Int) (x : Int) (hl : l.length ≤ max63) : ASpec Tryz.prog 78 [ints l, ii x] O (bb (decide (x ∈ l))) [] O := by
  have hR : decide (x ∈ l) = decide (x ∈ l.drop 0) := rfl
  generalize decide (x ∈ l) = R at *
  refine aspec_intro Tk Tryz.func78 rfl Tryz.call78 Tryz.ntmps78 (Nat.le_of_ble_eq_true rfl) fun E => ?_
  refine g_run Tk Tryz.func78 ?_
  refine g_loop ?_
  refine rch_loop2 (fun i : Nat => [(0, ints l), (1, ii x), (5, ii i)]) (fun _ => []) (fun _ => O) 18
    (fun i => i ≤ l.length ∧ R = decide (x ∈ l.drop i)) (fun i => l.length - i) 0 ⟨Nat.zero_le _, hR⟩ ⟨rfl, rfl, rfl, trivial⟩ rfl trivial rfl rfl ?_
  rintro i ⟨hi, hno⟩ ih
  clear hR
  refine g_run Tk Tryz.func78 ?_
  first | refine g_cnd Tk Tryz.func78 rfl (fun g1 => ?_) (fun g1 => ?_) | refine g_know Tk Tryz.func78 rfl (fun g1 => ?_) (fun g1 => ?_) | refine s_know Tk (fun g1 => ?_) (fun g1 => ?_)
  · have h1 : i < l.length := by simpa using g1
    have gl : (l.map fun x => [vi x])[(i : Int).toNat]? = some [vi l[i]] := get_mapZ (f := fun x => [vi x]) h1
    have dl : l.drop i = l[i] :: l.drop (i + 1) := List.drop_eq_getElem_cons h1
    simp only [dl, List.mem_cons] at hno
    clear dl
    generalize l[i] = y at *
    first | refine g_need Tk Tryz.func78 (by exact ⟨by omega, by show (i : Int) < (l.length : Int); omega⟩) ?_ | refine s_need Tk (by exact ⟨by omega, by show (i : Int) < (l.length : Int); omega⟩) ?_
    first | refine g_elem Tk Tryz.func78 (gl) ?_ | refine s_elem Tk (gl) ?_
    first | refine g_cnd Tk Tryz.func78 rfl (fun g2 => ?_) (fun g2 => ?_) | refine g_know Tk Tryz.func78 rfl (fun g2 => ?_) (fun g2 => ?_) | refine s_know Tk (fun g2 => ?_) (fun g2 => ?_)
    · have g2 : y = x := beqT g2
      subst g2
      refine g_ret Tk (r := bb true) rfl rfl rfl trivial rfl rfl ?_
      rw [hno]
      simp
    · have g2 : y ≠ x := beqF g2
      have hno : R = decide (x ∈ l.drop (i + 1)) := by
        rw [hno]
        exact decide_eq_decide.2 ⟨fun h => h.resolve_left (Ne.symm g2), .inr⟩
      refine g_loop ?_
      exact ih (i + 1) _ _ ⟨h1, hno⟩ (by omega) ⟨rfl, rfl, congrArg ii (wsucc h1 hl), trivial⟩ rfl trivial rfl rfl
  · have h1 : l.length ≤ i := by simpa using g1
    simp only [List.drop_eq_nil_of_le h1] at hno
    refine g_ret Tk (r := bb false) rfl rfl rfl trivial rfl rfl ?_
    rw [hno]
    simp
theorem index122 (O : List Heap) (l : List Int) (x : Int) (hl : l.length ≤ max63) : ASpec Tryz.prog 80 [ints l, ii x] O (ii (idxI x l 0)) [] O := by
  generalize hR : idxI x l 0 = R
  refine aspec_intro Tk Tryz.func80 rfl Tryz.call80 Tryz.ntmps80 (Nat.le_of_ble_eq_true rfl) fun E => ?_
  refine g_run Tk Tryz.func80 ?_
  refine g_loop ?_
  refine rch_loop2 (fun i : Nat => [(0, ints l), (1, ii x), (5, ii i)]) (fun _ => []) (fun _ => O) 19
    (fun i => i ≤ l.length ∧ idxI x (l.drop i) i = R) (fun i => l.length - i) 0 ⟨Nat.zero_le _, hR⟩ ⟨rfl, rfl, rfl, trivial⟩ rfl trivial rfl rfl ?_
  rintro i ⟨hi, hno⟩ ih
  clear hR
  refine g_run Tk Tryz.func80 ?_
  first | refine g_cnd Tk Tryz.func80 rfl (fun g1 => ?_) (fun g1 => ?_) | refine g_know Tk Tryz.func80 rfl (fun g1 => ?_) (fun g1 => ?_) | refine s_know Tk (fun g1 => ?_) (fun g1 => ?_)
  · have h1 : i < l.length := by simpa using g1
    have gl : (l.map fun x => [vi x])[(i : Int).toNat]? = some [vi l[i]] := get_mapZ (f := fun x => [vi x]) h1
    have dl : l.drop i = l[i] :: l.drop (i + 1) := List.drop_eq_getElem_cons h1
    rw [dl] at hno
    simp only [idxI] at hno
    clear dl
    generalize l[i] = y at *
    first | refine g_need Tk Tryz.func80 (by exact ⟨by omega, by show (i : Int) < (l.length : Int); omega⟩) ?_ | refine s_need Tk (by exact ⟨by omega, by show (i : Int) < (l.length : Int); omega⟩) ?_
    first | refine g_elem Tk Tryz.func80 (gl) ?_ | refine s_elem Tk (gl) ?_
    first | refine g_cnd Tk Tryz.func80 rfl (fun g2 => ?_) (fun g2 => ?_) | refine g_know Tk Tryz.func80 rfl (fun g2 => ?_) (fun g2 => ?_) | refine s_know Tk (fun g2 => ?_) (fun g2 => ?_)
    · have g2 : y = x := beqT g2
      rw [if_pos g2.symm] at hno
      subst hno
      refine g_ret Tk (r := ii (i : Int)) rfl rfl rfl trivial rfl rfl ?_
      rfl
    · have g2 : y ≠ x := beqF g2
      rw [if_neg (Ne.symm g2)] at hno
      refine g_loop ?_
      exact ih (i + 1) _ _ ⟨h1, hno⟩ (by omega) ⟨rfl, rfl, congrArg ii (wsucc h1 hl), trivial⟩ rfl trivial rfl rfl
  · have h1 : l.length ≤ i := by simpa using g1
    rw [List.drop_eq_nil_of_le h1] at hno
    simp only [idxI] at hno
    subst hno
    refine g_ret Tk (r := ii (-1)) rfl rfl rfl trivial rfl rfl ?_
    rfl
def stp3 (es : List Edg) (s ev : Int) : Int := match es with
  | [] => -1
  | x :: r => if x.1 = s ∧ x.2.1 = ev then x.2.2 else stp3 r s ev
theorem step121 (O : List Heap) (a : Aut) (s ev : Int) (hl : a.edges.length ≤ max63) : ASpec Tryz.prog 65 [autD a, ii s, ii ev] O (ii (stp3 a.edges s ev)) [] O := by
  obtain ⟨al, st, mk, es⟩ := a
  simp only at hl ⊢
  generalize hR : stp3 es s ev = R
  refine aspec_intro Tk Tryz.func65 rfl Tryz.call65 Tryz.ntmps65 (Nat.le_of_ble_eq_true rfl) fun E => ?_
  refine g_run Tk Tryz.func65 ?_
  refine g_loop ?_
  refine rch_loop2 (fun i : Nat => [(1, ii s), (2, ii ev), (3, .own 0 3 0 0), (7, ii i)]) (fun _ => [(3, .box [ints al, ii st, ints mk, edgs es])]) (fun _ => O) 39
    (fun i => i ≤ es.length ∧ stp3 (es.drop i) s ev = R) (fun i => es.length - i) 0 ⟨Nat.zero_le _, hR⟩ ⟨rfl, rfl, rfl, rfl, trivial⟩ rfl ⟨rfl, trivial⟩ rfl rfl ?_
  rintro i ⟨hi, hno⟩ ih
  clear hR
  refine g_run Tk Tryz.func65 ?_
  first | refine g_cnd Tk Tryz.func65 rfl (fun g1 => ?_) (fun g1 => ?_) | refine g_know Tk Tryz.func65 rfl (fun g1 => ?_) (fun g1 => ?_) | refine s_know Tk (fun g1 => ?_) (fun g1 => ?_)
  · have h1 : i < es.length := by simpa using g1
    have ge : (es.map edgI)[(i : Int).toNat]? = some (edgI es[i]) := get_mapZ h1
    have dl : es.drop i = es[i] :: es.drop (i + 1) := List.drop_eq_getElem_cons h1
    rw [dl] at hno
    simp only [stp3] at hno
    clear dl
    generalize es[i] = y at *
    obtain ⟨yf, ye, yt⟩ := y
    simp only at hno
    have n1 : 0 ≤ (i : Int) ∧ (i : Int) < (es.length : Int) := by omega
    first | refine g_need Tk Tryz.func65 (by exact n1) ?_ | refine s_need Tk (by exact n1) ?_
    first | refine g_elem Tk Tryz.func65 (ge) ?_ | refine s_elem Tk (ge) ?_
    first | refine g_cnd Tk Tryz.func65 rfl (fun g2 => ?_) (fun g2 => ?_) | refine g_know Tk Tryz.func65 rfl (fun g2 => ?_) (fun g2 => ?_) | refine s_know Tk (fun g2 => ?_) (fun g2 => ?_)
    · have g2 : yf = s := beqT g2
      first | refine g_need Tk Tryz.func65 (by exact n1) ?_ | refine s_need Tk (by exact n1) ?_
      first | refine g_elem Tk Tryz.func65 (ge) ?_ | refine s_elem Tk (ge) ?_
      first | refine g_cnd Tk Tryz.func65 rfl (fun g3 => ?_) (fun g3 => ?_) | refine g_know Tk Tryz.func65 rfl (fun g3 => ?_) (fun g3 => ?_) | refine s_know Tk (fun g3 => ?_) (fun g3 => ?_)
      · have g3 : ye = ev := beqT g3
        rw [if_pos ⟨g2, g3⟩] at hno
        subst hno
        first | refine g_need Tk Tryz.func65 (by exact n1) ?_ | refine s_need Tk (by exact n1) ?_
        first | refine g_elem Tk Tryz.func65 (ge) ?_ | refine s_elem Tk (ge) ?_
        refine g_ret Tk (r := ii yt) rfl rfl rfl trivial rfl rfl ?_
        rfl
      · have g3 : ye ≠ ev := beqF g3
        rw [if_neg (fun h => g3 h.2)] at hno
        refine g_loop ?_
        exact ih (i + 1) _ _ ⟨h1, hno⟩ (by omega) ⟨rfl, rfl, rfl, congrArg ii (wsucc h1 hl), trivial⟩ rfl ⟨rfl, trivial⟩ rfl rfl
    · have g2 : yf ≠ s := beqF g2
      rw [if_neg (fun h => g2 h.1)] at hno
      repeat (first | refine gcT Tk Tryz.func65 rfl ?_ | refine gkT Tk Tryz.func65 rfl ?_ | refine skT Tk ?_ | refine gcF Tk Tryz.func65 rfl ?_ | refine gkF Tk Tryz.func65 rfl ?_ | refine skF Tk ?_)
      refine g_loop ?_
      exact ih (i + 1) _ _ ⟨h1, hno⟩ (by omega) ⟨rfl, rfl, rfl, congrArg ii (wsucc h1 hl), trivial⟩ rfl ⟨rfl, trivial⟩ rfl rfl
  · have h1 : es.length ≤ i := by simpa using g1
    rw [List.drop_eq_nil_of_le h1] at hno
    simp only [stp3] at hno
    subst hno
    refine g_ret Tk (r := ii (-1)) rfl rfl rfl trivial rfl rfl ?_
    rfl
theorem empty120 (O : List Heap) (l : List Int) (hl : l.length ≤ 1000000) : ASpec Tryz.prog 40 [ints l] O (.agg [ints l, ii 0, .i (.v (.slice none 0 0)), .i (.v (.slice none 0 0))]) [] O := by
  refine aspec_intro Tk Tryz.func40 rfl Tryz.call40 Tryz.ntmps40 (Nat.le_of_ble_eq_true rfl) fun E => ?_
  refine g_run Tk Tryz.func40 ?_
  first | refine g_need Tk Tryz.func40 (by exact ⟨by show (0 + l.length) * 8 ≤ 140737488355328; omega, by show 0 + l.length ≤ 9223372036854775807; omega⟩) ?_ | refine s_need Tk (by exact ⟨by show (0 + l.length) * 8 ≤ 140737488355328; omega, by show 0 + l.length ≤ 9223372036854775807; omega⟩) ?_
  refine g_rwk (wk_freeze 5 rfl rfl) ?_
  refine g_rwk (wk_imm rfl) ?_
  refine g_ret_co Tk (r := _) rfl rfl rfl trivial rfl rfl ?_
  show CoD (.agg [.i (.sl 1 (0 + l.length) ([] ++ l.map fun x => [vi x])), ii 0, .i (.v (.slice none 0 0)), .i (.v (.slice none 0 0))]) _
  rw [Nat.zero_add, List.nil_append]
  exact CoD.refl _
end Go.AI


namespace Go.AI
theorem nodup_bound : ∀ {n : Nat} {l : List Nat}, l.Nodup → (∀ x ∈ l, x < n) → l.length ≤ n
  | 0, l, _, h => by
    cases l with
    | nil => exact Nat.le_refl _
    | cons a r => exact absurd (h a (by simp)) (Nat.not_lt_zero _)
  | n + 1, l, hn, h => by
    by_cases hm : n ∈ l
    · have h1 := nodup_bound (n := n) (l := l.erase n) (hn.erase n) fun x hx => by
        have hx2 := (hn.mem_erase_iff).1 hx
        have := h x hx2.2
        have := hx2.1
        omega
      rw [List.length_erase_of_mem hm] at h1
      omega
    · have := nodup_bound (n := n) (l := l) hn fun x hx => by
        have h1 := h x hx
        have : x ≠ n := fun e => hm (e ▸ hx)
        omega
      omega
structure autOk (a : Aut) : Prop where
  ed : a.edges.length ≤ 1000000
  al : a.alpha.length ≤ 1000000
  mkd : a.marked.length ≤ 1000000
  chk : chkA a = 0
theorem chk_parts {a : Aut} (h : chkA a = 0) : checkSet 32 a.alpha none = 0 ∧ (0 ≤ a.states ∧ a.states ≤ 4096) ∧ checkSet a.states a.marked none = 0 ∧ chkEds a.alpha a.states none a.edges = 0 := by
  unfold chkA at h
  by_cases h1 : checkSet 32 a.alpha none ≠ 0
  · rw [if_pos h1] at h; exact absurd h h1
  rw [if_neg h1] at h
  by_cases h2 : a.states < 0
  · rw [if_pos h2] at h; cases h
  rw [if_neg h2] at h
  by_cases h3 : a.states > 4096
  · rw [if_pos h3] at h; cases h
  rw [if_neg h3] at h
  by_cases h4 : checkSet a.states a.marked none ≠ 0
  · rw [if_pos h4] at h; exact absurd h h4
  rw [if_neg h4] at h
  exact ⟨by simpa using h1, by omega, by simpa using h4, h⟩
end Go.AI


namespace Go.AI
open Go.Proofs
set_option maxRecDepth 20000
theorem has118o (O : List Heap) (l : List Int) (x : Int) (e w : Nat) (ho : objAt O e w = some (oints l)) (hl : l.length ≤ max63) : ASpec Tryz.prog 78 [.osl e w, ii x] O (bb (decide (x ∈ l))) [] O := by
  have hO : ∀ H, objAt (H :: O) (e + 1) w = some (oints l) := fun H => up_obj ho
  have hR : decide (x ∈ l) = decide (x ∈ l.drop 0) := rfl
  generalize decide (x ∈ l) = R at *
  refine aspec_intro Tk Tryz.func78 rfl Tryz.call78 Tryz.ntmps78 (Nat.le_of_ble_eq_true rfl) fun E => ?_
  refine g_run Tk Tryz.func78 ?_
  refine g_loop ?_
  refine rch_loop2 (fun i : Nat => [(0, .osl (e + 1) w), (1, ii x), (5, ii i)]) (fun _ => []) (fun _ => O) 18
    (fun i => i ≤ l.length ∧ R = decide (x ∈ l.drop i)) (fun i => l.length - i) 0 ⟨Nat.zero_le _, hR⟩ ⟨rfl, rfl, rfl, trivial⟩ rfl trivial rfl rfl ?_
  rintro i ⟨hi, hno⟩ ih
  clear hR
  refine g_run Tk Tryz.func78 ?_
  first | refine g_obj Tk Tryz.func78 (hO _) ?_ | refine s_obj Tk (hO _) ?_
  first | refine g_cnd Tk Tryz.func78 rfl (fun g1 => ?_) (fun g1 => ?_) | refine g_know Tk Tryz.func78 rfl (fun g1 => ?_) (fun g1 => ?_) | refine s_know Tk (fun g1 => ?_) (fun g1 => ?_)
  · have h1 : i < l.length := by simpa using g1
    have gl : (l.map fun x => [vi x])[(i : Int).toNat]? = some [vi l[i]] := get_mapZ (f := fun x => [vi x]) h1
    have dl : l.drop i = l[i] :: l.drop (i + 1) := List.drop_eq_getElem_cons h1
    simp only [dl, List.mem_cons] at hno
    clear dl
    generalize l[i] = y at *
    first | refine g_obj Tk Tryz.func78 (hO _) ?_ | refine s_obj Tk (hO _) ?_
    first | refine g_need Tk Tryz.func78 (by exact ⟨by omega, by show (i : Int) < (l.length : Int); omega⟩) ?_ | refine s_need Tk (by exact ⟨by omega, by show (i : Int) < (l.length : Int); omega⟩) ?_
    first | refine g_obj Tk Tryz.func78 (hO _) ?_ | refine s_obj Tk (hO _) ?_
    first | refine g_elem Tk Tryz.func78 (gl) ?_ | refine s_elem Tk (gl) ?_
    first | refine g_cnd Tk Tryz.func78 rfl (fun g2 => ?_) (fun g2 => ?_) | refine g_know Tk Tryz.func78 rfl (fun g2 => ?_) (fun g2 => ?_) | refine s_know Tk (fun g2 => ?_) (fun g2 => ?_)
    · have g2 : y = x := beqT g2
      subst g2
      refine g_ret Tk (r := bb true) rfl rfl rfl trivial rfl rfl ?_
      rw [hno]
      simp
    · have g2 : y ≠ x := beqF g2
      have hno : R = decide (x ∈ l.drop (i + 1)) := by
        rw [hno]
        exact decide_eq_decide.2 ⟨fun h => h.resolve_left (Ne.symm g2), .inr⟩
      refine g_loop ?_
      exact ih (i + 1) _ _ ⟨h1, hno⟩ (by omega) ⟨rfl, rfl, congrArg ii (wsucc h1 hl), trivial⟩ rfl trivial rfl rfl
  · have h1 : l.length ≤ i := by simpa using g1
    simp only [List.drop_eq_nil_of_le h1] at hno
    refine g_ret Tk (r := bb false) rfl rfl rfl trivial rfl rfl ?_
    rw [hno]
    simp
def fvis (es : List Edg) (s : Int) : List Int → List Int → List Int
  | [], out => out
  | ev :: r, out => fvis es s r (if 0 ≤ stp3 es s ev ∧ stp3 es s ev ∉ out then out ++ [stp3 es s ev] else out)
def fndL (es : List Edg) (alpha : List Int) : Nat → Nat → List Int → List Int
  | 0, _, out => out
  | f + 1, i, out => match out[i]? with
    | none => out
    | some s => fndL es alpha f (i + 1) (fvis es s alpha out)
def foundR (a : Aut) : List Int := fndL a.edges a.alpha 4097 0 [0]
structure fOk (n : Int) (out : List Int) : Prop where
  nd : out.Nodup
  b : ∀ x ∈ out, 0 ≤ x ∧ x < n
theorem fOk_len {n : Int} {out : List Int} (h : fOk n out) : (out.length : Int) ≤ n ∨ out = [] := by
  cases out with
  | nil => exact .inr rfl
  | cons x r =>
    left
    have hx := h.b x (by simp)
    have h1 := nodup_bound (n := n.toNat) (l := (x :: r).map Int.toNat) ?_ ?_
    · rw [List.length_map] at h1; omega
    · unfold List.Nodup
      rw [List.pairwise_map]
      refine h.nd.imp_of_mem fun {a b} ha hb hne e => hne ?_
      have := h.b a ha
      have := h.b b hb
      omega
    · intro y hy
      obtain ⟨z, hz, rfl⟩ := List.mem_map.1 hy
      have := h.b z hz
      omega
theorem stp3_b {n : Int} : ∀ {es : List Edg} {s ev : Int}, (∀ x ∈ es, 0 ≤ x.2.2 ∧ x.2.2 < n) → stp3 es s ev = -1 ∨ (0 ≤ stp3 es s ev ∧ stp3 es s ev < n)
  | [], _, _, _ => .inl rfl
  | x :: r, s, ev, h => by
    unfold stp3
    split
    · exact .inr (h x (by simp))
    · exact stp3_b fun y hy => h y (by simp [hy])
theorem fOk_app {n : Int} {out : List Int} {t : Int} (h : fOk n out) (h1 : 0 ≤ t ∧ t < n) (h2 : t ∉ out) : fOk n (out ++ [t]) := by
  refine ⟨?_, fun x hx => ?_⟩
  · unfold List.Nodup
    rw [List.pairwise_append]
    refine ⟨h.nd, List.pairwise_singleton _ _, fun a ha b hb => ?_⟩
    rw [List.mem_singleton] at hb
    subst hb
    exact fun e => h2 (e ▸ ha)
  · rcases List.mem_append.1 hx with hx | hx
    · exact h.b x hx
    · rw [List.mem_singleton] at hx
      subst hx
      exact h1
theorem fndL_done {es : List Edg} {alpha out : List Int} {i : Nat} (h : out.length ≤ i) : ∀ f, fndL es alpha f i out = out
  | 0 => rfl
  | f + 1 => by simp only [fndL, List.getElem?_eq_none h]
set_option maxHeartbeats 4000000 in
theorem found119 (O : List Heap) (a : Aut) (ha : autOk a) (h1 : 1 ≤ a.states) : ASpec Tryz.prog 79 [autD a] O (ints (foundR a)) [] O := by
  obtain ⟨c1, c2, c3, c4⟩ := chk_parts ha.chk
  obtain ⟨_, eb, _⟩ := chkEds_sorted c4
  have hed := ha.ed
  have hal := ha.al
  have hst := fun O s ev => step121 O a s ev (by simp only [max63]; omega)
  have hsb := fun s ev => stp3_b (n := a.states) (es := a.edges) (s := s) (ev := ev) fun x hx => (eb x hx).2.1
  have hno : foundR a = fndL a.edges a.alpha (4097 - 0) 0 [0] := rfl
  generalize foundR a = R at *
  obtain ⟨al, n, mk, es⟩ := a
  simp only at *
  clear c1 c3 c4 eb
  refine aspec_intro Tk Tryz.func79 rfl Tryz.call79 Tryz.ntmps79 (Nat.le_of_ble_eq_true rfl) fun E => ?_
  refine g_run Tk Tryz.func79 ?_
  first | refine g_cnd Tk Tryz.func79 rfl (fun g0 => ?_) (fun g0 => ?_) | refine g_know Tk Tryz.func79 rfl (fun g0 => ?_) (fun g0 => ?_) | refine s_know Tk (fun g0 => ?_) (fun g0 => ?_)
  rotate_left
  · have g0 : ¬ n > 0 := of_decide_eq_false g0
    omega
  first | refine g_need Tk Tryz.func79 (by exact ⟨by decide, by decide⟩) ?_ | refine s_need Tk (by exact ⟨by decide, by decide⟩) ?_
  refine g_loop ?_
  refine rch_wk (wk_ren 12 48 rfl rfl rfl) ?_
  refine rch_loop2 (fun x : Nat × List Int => [(1, .own 0 1 0 0), (3, .osl 0 48), (4, ii x.1)]) (fun x => [(1, .box [ints al, ii n, ints mk, edgs es]), (48, oints x.2)]) (fun _ => O) 50
    (fun x => x.1 ≤ x.2.length ∧ fOk n x.2 ∧ R = fndL es al (4097 - x.1) x.1 x.2) (fun x => 4097 - x.1) (0, [0])
    ⟨Nat.zero_le _, ⟨by simp, fun x hx => by rw [List.mem_singleton] at hx; subst hx; omega⟩, hno⟩ ⟨rfl, rfl, rfl, trivial⟩ rfl ⟨rfl, rfl, trivial⟩ rfl rfl ?_
  clear hno g0
  rintro ⟨i, out⟩ ⟨hi, hf, hno⟩ ih
  simp only at hi hf hno
  have hol : out.length ≤ 4096 := by
    rcases fOk_len hf with h | h
    · omega
    · rw [h]; decide
  refine g_run Tk Tryz.func79 ?_
  first | refine g_cnd Tk Tryz.func79 rfl (fun g1 => ?_) (fun g1 => ?_) | refine g_know Tk Tryz.func79 rfl (fun g1 => ?_) (fun g1 => ?_) | refine s_know Tk (fun g1 => ?_) (fun g1 => ?_)
  · have h1 : i < out.length := by simpa using g1
    clear g1
    have hs0 : out[i]? = some out[i] := List.getElem?_eq_getElem h1
    have hsr := hf.b _ (List.getElem_mem h1)
    generalize out[i] = s at *
    have hno : R = fndL es al (4097 - (i + 1)) (i + 1) (fvis es s al out) := by
      rw [hno, show 4097 - i = (4097 - (i + 1)) + 1 by omega]
      simp only [fndL, hs0]
    have hV0 : fvis es s al out = fvis es s (al.drop 0) out := rfl
    generalize fvis es s al out = V at *
    refine g_loop ?_
    refine rch_loop2 (fun x : Nat × List Int => [(1, .own 0 1 0 0), (3, .osl 0 48), (4, ii i), (5, ii x.1)]) (fun x => [(1, .box [ints al, ii n, ints mk, edgs es]), (48, oints x.2)]) (fun _ => O) 50
      (fun x => x.1 ≤ al.length ∧ fOk n x.2 ∧ i < x.2.length ∧ x.2[i]? = some s ∧ V = fvis es s (al.drop x.1) x.2) (fun x => al.length - x.1) (0, out)
      ⟨Nat.zero_le _, hf, h1, hs0, hV0⟩ ⟨rfl, rfl, rfl, rfl, trivial⟩ rfl ⟨rfl, rfl, trivial⟩ rfl rfl ?_
    clear hV0 hf hs0 h1 hol hi
    rintro ⟨j, out⟩ ⟨hj, hf, hil, hs, hV⟩ ih2
    simp only at hj hf hil hs hV
    have hol : out.length ≤ 4096 := by
      rcases fOk_len hf with h | h
      · omega
      · rw [h]; decide
    refine g_run Tk Tryz.func79 ?_
    first | refine g_cnd Tk Tryz.func79 rfl (fun g2 => ?_) (fun g2 => ?_) | refine g_know Tk Tryz.func79 rfl (fun g2 => ?_) (fun g2 => ?_) | refine s_know Tk (fun g2 => ?_) (fun g2 => ?_)
    · have h3 : j < al.length := by simpa using g2
      clear g2
      have ga : (al.map fun x => [vi x])[(j : Int).toNat]? = some [vi al[j]] := get_mapZ (f := fun x => [vi x]) h3
      have da : al.drop j = al[j] :: al.drop (j + 1) := List.drop_eq_getElem_cons h3
      rw [da] at hV
      simp only [fvis] at hV
      clear da
      generalize al[j] = ev at *
      have gs : (out.map fun x => [vi x])[(i : Int).toNat]? = some [vi s] := by
        rw [List.getElem?_map, show (i : Int).toNat = i by omega, hs]
        rfl
      have hst1 := fun O => hst O s ev
      have hsb1 := hsb s ev
      generalize stp3 es s ev = t at *
      have hj1 : ii (IntKind.i64.wrap ((j : Int) + 1)) = ii ((j + 1 : Nat) : Int) := congrArg ii (wsucc (n := 1000001) (by omega) (by decide))
      have hho := fun O ho => has118o O out t 0 48 ho (by simp only [max63]; omega)
      refine g_drawn Tk Tryz.func79 mixedT rfl ?_
      first | refine g_need Tk Tryz.func79 (by exact ⟨by omega, by show (i : Int) < (out.length : Int); omega⟩) ?_ | refine s_need Tk (by exact ⟨by omega, by show (i : Int) < (out.length : Int); omega⟩) ?_
      first | refine g_elem Tk Tryz.func79 (gs) ?_ | refine s_elem Tk (gs) ?_
      first | refine g_need Tk Tryz.func79 (by exact ⟨by omega, by show (j : Int) < (al.length : Int); omega⟩) ?_ | refine s_need Tk (by exact ⟨by omega, by show (j : Int) < (al.length : Int); omega⟩) ?_
      first | refine g_elem Tk Tryz.func79 (ga) ?_ | refine s_elem Tk (ga) ?_
      first | refine g_call Tk Tryz.func79 (hst1 _) rfl rfl rfl rfl rfl ?_ | refine s_callq Tk (fun _ => hst1 _) rfl rfl rfl ?_
      refine e_done Tk Tryz.func79 (by kernel_rfl) ?_
      first | refine g_cnd Tk Tryz.func79 rfl (fun c1 => ?_) (fun c1 => ?_) | refine g_know Tk Tryz.func79 rfl (fun c1 => ?_) (fun c1 => ?_) | refine s_know Tk (fun c1 => ?_) (fun c1 => ?_)
      · have c1 : t ≥ 0 := of_decide_eq_true c1
        first | refine g_call Tk Tryz.func79 (hho _ rfl) rfl rfl rfl rfl rfl ?_ | refine s_callq Tk (fun _ => hho _ rfl) rfl rfl rfl ?_
        first | refine g_cnd Tk Tryz.func79 rfl (fun c2 => ?_) (fun c2 => ?_) | refine g_know Tk Tryz.func79 rfl (fun c2 => ?_) (fun c2 => ?_) | refine s_know Tk (fun c2 => ?_) (fun c2 => ?_)
        · have c2 : t ∉ out := of_decide_eq_false (notT c2)
          rw [if_pos ⟨c1, c2⟩] at hV
          first | refine g_need Tk Tryz.func79 (by exact ⟨by show (out.length + 1) * 8 ≤ 140737488355328; omega, by show out.length + 1 ≤ 9223372036854775807; omega⟩) ?_ | refine s_need Tk (by exact ⟨by show (out.length + 1) * 8 ≤ 140737488355328; omega, by show out.length + 1 ≤ 9223372036854775807; omega⟩) ?_
          refine g_loop ?_
          refine ih2 (j + 1, out ++ [t]) _ _ ⟨h3, fOk_app hf (by omega) c2, by simp only [List.length_append]; omega, (List.getElem?_append_left hil).trans hs, hV⟩ (by simp only; omega) ⟨rfl, rfl, rfl, hj1, trivial⟩ rfl ⟨rfl, congrArg some (oints_app out t), trivial⟩ rfl rfl
        · have c2 : t ∈ out := of_decide_eq_true (notF c2)
          rw [if_neg (fun h => h.2 c2)] at hV
          refine g_loop ?_
          exact ih2 (j + 1, out) _ _ ⟨h3, hf, hil, hs, hV⟩ (by simp only; omega) ⟨rfl, rfl, rfl, hj1, trivial⟩ rfl ⟨rfl, rfl, trivial⟩ rfl rfl
      · have c1 : ¬ t ≥ 0 := of_decide_eq_false c1
        rw [if_neg (fun h => c1 h.1)] at hV
        repeat (first | refine gcT Tk Tryz.func79 rfl ?_ | refine gkT Tk Tryz.func79 rfl ?_ | refine skT Tk ?_ | refine gcF Tk Tryz.func79 rfl ?_ | refine gkF Tk Tryz.func79 rfl ?_ | refine skF Tk ?_)
        refine g_loop ?_
        exact ih2 (j + 1, out) _ _ ⟨h3, hf, hil, hs, hV⟩ (by simp only; omega) ⟨rfl, rfl, rfl, hj1, trivial⟩ rfl ⟨rfl, rfl, trivial⟩ rfl rfl
    · have h3 : al.length ≤ j := by simpa using g2
      rw [List.drop_eq_nil_of_le h3] at hV
      simp only [fvis] at hV
      subst hV
      refine g_loop ?_
      exact ih (i + 1, V) _ _ ⟨by simp only; omega, hf, hno⟩ (by simp only; omega) ⟨rfl, rfl, congrArg ii (wsucc (n := 5000) (by omega) (by decide)), trivial⟩ rfl ⟨rfl, rfl, trivial⟩ rfl rfl
  · have h1 : out.length ≤ i := by simpa using g1
    rw [fndL_done h1] at hno
    subst hno
    refine g_rwk (wk_freeze 48 rfl rfl) ?_
    refine g_ret Tk (r := ints R) rfl rfl rfl trivial rfl rfl ?_
    rfl
end Go.AI


namespace Go.AI
def rvB (p : Int → Bool) (s : Int) : List Edg → List Int → List Int
  | [], l => l
  | e :: r, l => rvB p s r (if e.1 = s ∧ p e.2.1 = true ∧ e.2.2 ∉ l then l ++ [e.2.2] else l)
def rlB (es : List Edg) (p : Int → Bool) : Nat → Nat → List Int → List Int
  | 0, _, l => l
  | f + 1, i, l => match l[i]? with
    | none => l
    | some s => rlB es p f (i + 1) (rvB p s es l)
def reachB (es : List Edg) (p : Int → Bool) (n : Nat) (l : List Int) : List Int := rlB es p (l.length + n) 0 l
def clo (es : List Edg) (p : Int → Bool) (n : Nat) (l : List Int) : List Int := sortedBelow (reachB es p n l) n
theorem rlB_done {es : List Edg} {p : Int → Bool} {l : List Int} {i : Nat} (h : l.length ≤ i) : ∀ f, rlB es p f i l = l
  | 0 => rfl
  | f + 1 => by simp only [rlB, List.getElem?_eq_none h]
structure grOk (n : Nat) (fr l : List Int) : Prop where
  ex : ∃ ad, l = fr ++ ad ∧ fOk n ad
theorem grOk_refl (n : Nat) (fr : List Int) : grOk n fr fr := ⟨[], by simp, ⟨by simp, by simp⟩⟩
theorem fOk_le {n : Nat} {l : List Int} (h : fOk n l) : l.length ≤ n := by
  rcases fOk_len h with h | h
  · omega
  · simp [h]
theorem grOk_len {n : Nat} {fr l : List Int} (h : grOk n fr l) : fr.length ≤ l.length ∧ l.length ≤ fr.length + n := by
  obtain ⟨ad, rfl, h⟩ := h
  have := fOk_le h
  rw [List.length_append]
  omega
theorem grOk_app {n : Nat} {fr l : List Int} {t : Int} (h : grOk n fr l) (h1 : 0 ≤ t ∧ t < (n : Int)) (h2 : t ∉ l) : grOk n fr (l ++ [t]) := by
  obtain ⟨ad, rfl, h⟩ := h
  exact ⟨ad ++ [t], by simp, fOk_app h h1 fun hm => h2 (List.mem_append_right _ hm)⟩
theorem rvB_pre {p : Int → Bool} {s : Int} : ∀ {es : List Edg} {l : List Int}, l <+: rvB p s es l
  | [], l => List.prefix_refl _
  | e :: r, l => by
    unfold rvB
    refine List.IsPrefix.trans ?_ rvB_pre
    split
    · exact List.prefix_append _ _
    · exact List.prefix_refl _
theorem rvB_gr {p : Int → Bool} {s : Int} {n : Nat} {fr : List Int} : ∀ {es : List Edg} {l : List Int}, (∀ x ∈ es, 0 ≤ x.2.2 ∧ x.2.2 < (n : Int)) → grOk n fr l → grOk n fr (rvB p s es l)
  | [], l, _, h => h
  | e :: r, l, he, h => by
    unfold rvB
    refine rvB_gr (fun y hy => he y (by simp [hy])) ?_
    split
    · rename_i h1; exact grOk_app h (he e (by simp)) h1.2.2
    · exact h
inductive Rc (es : List Edg) (p : Int → Bool) (l : List Int) : Int → Prop
  | base {x : Int} : x ∈ l → Rc es p l x
  | step {e : Edg} : Rc es p l e.1 → e ∈ es → p e.2.1 = true → Rc es p l e.2.2
theorem Rc.mono {es : List Edg} {p q : Int → Bool} {l m : List Int} {x : Int} (hp : ∀ e ∈ es, p e.2.1 = true → q e.2.1 = true) (hl : ∀ x ∈ l, Rc es q m x) (h : Rc es p l x) : Rc es q m x := by
  induction h with
  | base h => exact hl _ h
  | step _ he hpe ih => exact .step ih he (hp _ he hpe)
theorem rvB_mem {p : Int → Bool} {s x : Int} : ∀ {es : List Edg} {l : List Int}, x ∈ rvB p s es l ↔ x ∈ l ∨ ∃ e ∈ es, e.1 = s ∧ p e.2.1 = true ∧ e.2.2 = x
  | [], l => by simp [rvB]
  | e :: r, l => by
    unfold rvB
    rw [rvB_mem]
    by_cases h : e.1 = s ∧ p e.2.1 = true ∧ e.2.2 ∉ l
    · rw [if_pos h]
      constructor
      · rintro (h1 | ⟨e', h1, h2⟩)
        · rcases List.mem_append.1 h1 with h1 | h1
          · exact .inl h1
          · rw [List.mem_singleton] at h1
            exact .inr ⟨e, by simp, h.1, h.2.1, h1.symm⟩
        · exact .inr ⟨e', by simp [h1], h2⟩
      · rintro (h1 | ⟨e', h1, h2, h3, h4⟩)
        · exact .inl (by simp [h1])
        · rcases List.mem_cons.1 h1 with rfl | h1
          · exact .inl (by simp [h4])
          · exact .inr ⟨e', h1, h2, h3, h4⟩
    · rw [if_neg h]
      constructor
      · rintro (h1 | ⟨e', h1, h2⟩)
        · exact .inl h1
        · exact .inr ⟨e', by simp [h1], h2⟩
      · rintro (h1 | ⟨e', h1, h2, h3, h4⟩)
        · exact .inl h1
        · rcases List.mem_cons.1 h1 with rfl | h1
          · subst h4
            by_cases hm : e'.2.2 ∈ l
            · exact .inl hm
            · exact absurd ⟨h2, h3, hm⟩ h
          · exact .inr ⟨e', h1, h2, h3, h4⟩
theorem rlB_spec {es : List Edg} {p : Int → Bool} {n : Nat} {fr : List Int} (hes : ∀ x ∈ es, 0 ≤ x.2.2 ∧ x.2.2 < (n : Int)) : ∀ (f i : Nat) (l : List Int), grOk n fr l → f + i = fr.length + n → (∀ x ∈ l, Rc es p fr x) → (∀ (j : Nat) s, j < i → l[j]? = some s → ∀ e ∈ es, e.1 = s → p e.2.1 = true → e.2.2 ∈ l) →
    ∀ x, x ∈ rlB es p f i l ↔ Rc es p fr x := by
  have fin : ∀ (i : Nat) (l : List Int), grOk n fr l → l.length ≤ i → (∀ x ∈ l, Rc es p fr x) → (∀ (j : Nat) s, j < i → l[j]? = some s → ∀ e ∈ es, e.1 = s → p e.2.1 = true → e.2.2 ∈ l) → ∀ x, x ∈ l ↔ Rc es p fr x := by
    intro i l hg hl h1 h2 x
    refine ⟨h1 x, fun h => ?_⟩
    induction h with
    | base h =>
      obtain ⟨ad, rfl, _⟩ := hg
      exact List.mem_append_left _ h
    | step _ he hp ih =>
      obtain ⟨j, hj, e⟩ := List.getElem_of_mem ih
      exact h2 j _ (by omega) (by rw [List.getElem?_eq_getElem hj, e]) _ he rfl hp
  intro f
  induction f with
  | zero =>
    intro i l hg hf h1 h2 x
    have := grOk_len hg
    exact fin i l hg (by omega) h1 h2 x
  | succ f ih =>
    intro i l hg hf h1 h2 x
    unfold rlB
    cases hi : l[i]? with
    | none => exact fin i l hg (by rwa [List.getElem?_eq_none_iff] at hi) h1 h2 x
    | some s =>
      simp only
      have hs : s ∈ l := List.mem_of_getElem? hi
      refine ih (i + 1) _ (rvB_gr hes hg) (by omega) (fun y hy => ?_) (fun j t hj ht e he h3 h4 => ?_) x
      · rcases rvB_mem.1 hy with hy | ⟨e, he, h3, h4, rfl⟩
        · exact h1 y hy
        · exact .step (by rw [h3]; exact h1 s hs) he h4
      · have hil : i < l.length := (List.getElem?_eq_some_iff.1 hi).1
        have hpre := rvB_pre (p := p) (s := s) (es := es) (l := l)
        have ht' : l[j]? = some t := by
          obtain ⟨m, hm⟩ := hpre
          rw [← hm, List.getElem?_append_left (by omega)] at ht
          exact ht
        rw [rvB_mem]
        by_cases hji : j = i
        · subst hji
          rw [hi] at ht'
          simp only [Option.some.injEq] at ht'
          exact .inr ⟨e, he, by rw [h3, ht'], h4, rfl⟩
        · exact .inl (h2 j t (by omega) ht' e he h3 h4)
theorem mem_reachB {es : List Edg} {p : Int → Bool} {n : Nat} {l : List Int} (hes : ∀ x ∈ es, 0 ≤ x.2.2 ∧ x.2.2 < (n : Int)) {x : Int} : x ∈ reachB es p n l ↔ Rc es p l x :=
  rlB_spec hes _ _ _ (grOk_refl n l) (by omega) (fun x h => .base h) (fun j s hj => absurd hj (Nat.not_lt_zero _)) x
theorem mem_sortedBelow {l : List Int} {n : Nat} {x : Int} : x ∈ sortedBelow l n ↔ (0 ≤ x ∧ x < (n : Int)) ∧ x ∈ l := by
  unfold sortedBelow
  rw [List.mem_filter, List.mem_map, decide_eq_true_eq]
  constructor
  · rintro ⟨⟨i, hi, rfl⟩, h⟩
    rw [List.mem_range] at hi
    exact ⟨by omega, h⟩
  · rintro ⟨h1, h⟩
    exact ⟨⟨x.toNat, List.mem_range.2 (by omega), by omega⟩, h⟩
theorem sortedBelow_lt (l : List Int) (n : Nat) : (sortedBelow l n).Pairwise (· < ·) := by
  unfold sortedBelow
  refine List.Pairwise.filter _ ?_
  rw [List.pairwise_map]
  exact List.pairwise_lt_range.imp fun {a b} h => by omega
theorem sortedBelow_congr {l m : List Int} {n : Nat} (h : ∀ x, 0 ≤ x → x < (n : Int) → (x ∈ l ↔ x ∈ m)) : sortedBelow l n = sortedBelow m n := by
  unfold sortedBelow
  refine List.filter_congr fun x hx => ?_
  obtain ⟨i, hi, rfl⟩ := List.mem_map.1 hx
  rw [List.mem_range] at hi
  exact decide_eq_decide.2 (h _ (by omega) (by omega))
theorem Rc_in {es : List Edg} {p : Int → Bool} {n : Nat} {l : List Int} (hes : ∀ x ∈ es, 0 ≤ x.2.2 ∧ x.2.2 < (n : Int)) (hl : ∀ x ∈ l, 0 ≤ x ∧ x < (n : Int)) {x : Int} (h : Rc es p l x) : 0 ≤ x ∧ x < (n : Int) := by
  cases h with
  | base h => exact hl x h
  | step _ he _ => exact hes _ he
theorem mem_clo {es : List Edg} {p : Int → Bool} {n : Nat} {l : List Int} (hes : ∀ x ∈ es, 0 ≤ x.2.2 ∧ x.2.2 < (n : Int)) {x : Int} : x ∈ clo es p n l ↔ (0 ≤ x ∧ x < (n : Int)) ∧ Rc es p l x := by
  unfold clo
  rw [mem_sortedBelow, mem_reachB hes]
theorem clo_congr {es : List Edg} {p q : Int → Bool} {n : Nat} {l m : List Int} (hes : ∀ x ∈ es, 0 ≤ x.2.2 ∧ x.2.2 < (n : Int)) (hp : ∀ e ∈ es, p e.2.1 = q e.2.1) (hl : ∀ x, x ∈ l ↔ x ∈ m) : clo es p n l = clo es q n m := by
  unfold clo
  refine sortedBelow_congr fun x _ _ => ?_
  rw [mem_reachB hes, mem_reachB hes]
  exact ⟨Rc.mono (fun e he h => by rw [← hp e he]; exact h) fun x hx => .base ((hl x).1 hx), Rc.mono (fun e he h => by rw [hp e he]; exact h) fun x hx => .base ((hl x).2 hx)⟩
theorem lt_ext : ∀ {l m : List Int}, l.Pairwise (· < ·) → m.Pairwise (· < ·) → (∀ x, x ∈ l ↔ x ∈ m) → l = m
  | [], [], _, _, _ => rfl
  | [], y :: m, _, _, h => absurd ((h y).2 (by simp)) (by simp)
  | x :: l, [], _, _, h => absurd ((h x).1 (by simp)) (by simp)
  | x :: l, y :: m, hl, hm, h => by
    rw [List.pairwise_cons] at hl hm
    have hxy : x = y := by
      have h1 := (h x).1 (by simp)
      have h2 := (h y).2 (by simp)
      rcases List.mem_cons.1 h1 with h1 | h1
      · exact h1
      · rcases List.mem_cons.1 h2 with h2 | h2
        · exact h2.symm
        · have := hl.1 y h2
          have := hm.1 x h1
          omega
    subst hxy
    rw [lt_ext hl.2 hm.2 fun z => ?_]
    have hz := h z
    rw [List.mem_cons, List.mem_cons] at hz
    constructor
    · intro hzl
      rcases hz.1 (.inr hzl) with rfl | h'
      · exact absurd (hl.1 z hzl) (by omega)
      · exact h'
    · intro hzl
      rcases hz.2 (.inr hzl) with rfl | h'
      · exact absurd (hm.1 z hzl) (by omega)
      · exact h'
def sortI (l : List Int) : List Int := l.mergeSort fun x y => decide (x ≤ y)
theorem sortI_len (l : List Int) : (sortI l).length = l.length := by unfold sortI; exact List.length_mergeSort l
theorem sortI_mem {l : List Int} {x : Int} : x ∈ sortI l ↔ x ∈ l := List.mem_mergeSort
theorem sortI_le (l : List Int) : (sortI l).Pairwise (· ≤ ·) := by
  unfold sortI
  have := List.pairwise_mergeSort (le := fun x y : Int => decide (x ≤ y)) (fun a b c h1 h2 => by simp only [decide_eq_true_eq] at *; omega) (fun a b => by simp only [Bool.or_eq_true, decide_eq_true_eq]; omega) l
  exact this.imp fun {a b} h => of_decide_eq_true h
theorem sortI_nodup {l : List Int} (h : l.Nodup) : (sortI l).Nodup := (List.mergeSort_perm l _).nodup_iff.2 h
theorem lt_of_nodup {l : List Int} (h1 : l.Pairwise (· ≤ ·)) (h2 : l.Nodup) : l.Pairwise (· < ·) := by
  unfold List.Nodup at h2
  exact (h1.and h2).imp fun {a b} h => by omega
theorem sortI_below {l : List Int} {n : Nat} (h : l.Nodup) (hl : ∀ x ∈ l, 0 ≤ x ∧ x < (n : Int)) : sortI l = sortedBelow l n := by
  refine lt_ext (lt_of_nodup (sortI_le l) (sortI_nodup h)) (sortedBelow_lt l n) fun x => ?_
  rw [sortI_mem, mem_sortedBelow]
  exact ⟨fun h => ⟨hl x h, h⟩, fun h => h.2⟩
theorem compactUpTo_sorted {zs : List Int} (hz : zs.Pairwise (· ≤ ·)) : ∀ m, m ≤ zs.length → (Lib.compactUpTo zs.toArray m).Pairwise (· < ·) ∧ ∀ x, x ∈ Lib.compactUpTo zs.toArray m ↔ x ∈ zs.take m
  | 0, _ => by simp [Lib.compactUpTo]
  | m + 1, hm => by
    obtain ⟨h1, h2⟩ := compactUpTo_sorted hz m (by omega)
    have hg : ∀ j (hj : j < zs.length), zs.toArray[j]! = zs[j] := fun j hj => by simp [hj]
    have htk : zs.take (m + 1) = zs.take m ++ [zs[m]] := by rw [List.take_add_one, List.getElem?_eq_getElem (by omega)]; rfl
    rw [Lib.compactUpTo_succ, htk]
    by_cases hk : Lib.keeps zs.toArray m = true
    · rw [if_pos hk]
      have hlt : ∀ x ∈ zs.take m, x < zs[m] := by
        intro x hx
        have hm0 : m ≠ 0 := by rintro rfl; simp at hx
        simp only [Lib.keeps, decide_eq_true_eq] at hk
        rcases hk with hk | hk
        · exact absurd hk hm0
        rw [hg m (by omega), hg (m - 1) (by omega)] at hk
        have hpw := List.pairwise_iff_getElem.1 hz
        have h3 := hpw (m - 1) m (by omega) (by omega) (by omega)
        obtain ⟨j, hj, rfl⟩ := List.getElem_of_mem hx
        rw [List.length_take] at hj
        rw [List.getElem_take]
        have h4 : zs[j] ≤ zs[m - 1] := by
          rcases Nat.lt_or_ge j (m - 1) with h | h
          · exact hpw j (m - 1) (by omega) (by omega) h
          · have : j = m - 1 := by omega
            subst this
            exact Int.le_refl _
        omega
      constructor
      · rw [List.pairwise_append]
        refine ⟨h1, List.pairwise_singleton _ _, fun a ha b hb => ?_⟩
        rw [List.mem_singleton] at hb
        subst hb
        rw [hg m (by omega)]
        exact hlt a ((h2 a).1 ha)
      · intro x
        rw [List.mem_append, List.mem_append, h2, hg m (by omega)]
    · rw [if_neg hk, List.append_nil]
      refine ⟨h1, fun x => ?_⟩
      rw [h2, List.mem_append, List.mem_singleton]
      refine ⟨.inl, fun h => h.elim id fun h => ?_⟩
      subst h
      simp only [Lib.keeps, decide_eq_true_eq, not_or, ne_eq, Decidable.not_not] at hk
      obtain ⟨hm0, hk⟩ := hk
      rw [hg m (by omega), hg (m - 1) (by omega)] at hk
      rw [hk]
      exact List.mem_iff_getElem.2 ⟨m - 1, by rw [List.length_take]; omega, by rw [List.getElem_take]⟩
theorem compact_below {l : List Int} {n : Nat} (hl : ∀ x ∈ l, 0 ≤ x ∧ x < (n : Int)) : Lib.compact (sortI l) = sortedBelow l n := by
  obtain ⟨h1, h2⟩ := compactUpTo_sorted (sortI_le l) (sortI l).length (Nat.le_refl _)
  refine lt_ext h1 (sortedBelow_lt l n) fun x => ?_
  show x ∈ Lib.compactUpTo _ _ ↔ _
  rw [h2, List.take_length, sortI_mem, mem_sortedBelow]
  exact ⟨fun h => ⟨hl x h, h⟩, fun h => h.2⟩
theorem reachB_in {es : List Edg} {p : Int → Bool} {n : Nat} {l : List Int} (hes : ∀ x ∈ es, 0 ≤ x.2.2 ∧ x.2.2 < (n : Int)) (hl : ∀ x ∈ l, 0 ≤ x ∧ x < (n : Int)) : ∀ x ∈ reachB es p n l, 0 ≤ x ∧ x < (n : Int) := fun x hx => Rc_in hes hl ((mem_reachB hes).1 hx)
end Go.AI


namespace Go.AI
open Go.Proofs
set_option maxRecDepth 20000
theorem has55o (O : List Heap) (l : List Int) (x : Int) (e w : Nat) (ho : objAt O e w = some (oints l)) (hl : l.length ≤ max63) : ASpec Tryz.prog 55 [.osl e w, ii x] O (bb (decide (x ∈ l))) [] O := by
  have hO : ∀ H, objAt (H :: O) (e + 1) w = some (oints l) := fun H => up_obj ho
  have hR : decide (x ∈ l) = decide (x ∈ l.drop 0) := rfl
  generalize decide (x ∈ l) = R at *
  refine aspec_intro Tk Tryz.func55 rfl Tryz.call55 Tryz.ntmps55 (Nat.le_of_ble_eq_true rfl) fun E => ?_
  refine g_run Tk Tryz.func55 ?_
  refine g_loop ?_
  refine rch_loop2 (fun i : Nat => [(0, .osl (e + 1) w), (1, ii x), (5, ii i)]) (fun _ => []) (fun _ => O) 18
    (fun i => i ≤ l.length ∧ R = decide (x ∈ l.drop i)) (fun i => l.length - i) 0 ⟨Nat.zero_le _, hR⟩ ⟨rfl, rfl, rfl, trivial⟩ rfl trivial rfl rfl ?_
  rintro i ⟨hi, hno⟩ ih
  clear hR
  refine g_run Tk Tryz.func55 ?_
  first | refine g_obj Tk Tryz.func55 (hO _) ?_ | refine s_obj Tk (hO _) ?_
  first | refine g_cnd Tk Tryz.func55 rfl (fun g1 => ?_) (fun g1 => ?_) | refine g_know Tk Tryz.func55 rfl (fun g1 => ?_) (fun g1 => ?_) | refine s_know Tk (fun g1 => ?_) (fun g1 => ?_)
  · have h1 : i < l.length := by simpa using g1
    have gl : (l.map fun x => [vi x])[(i : Int).toNat]? = some [vi l[i]] := get_mapZ (f := fun x => [vi x]) h1
    have dl : l.drop i = l[i] :: l.drop (i + 1) := List.drop_eq_getElem_cons h1
    simp only [dl, List.mem_cons] at hno
    clear dl
    generalize l[i] = y at *
    first | refine g_obj Tk Tryz.func55 (hO _) ?_ | refine s_obj Tk (hO _) ?_
    first | refine g_need Tk Tryz.func55 (by exact ⟨by omega, by show (i : Int) < (l.length : Int); omega⟩) ?_ | refine s_need Tk (by exact ⟨by omega, by show (i : Int) < (l.length : Int); omega⟩) ?_
    first | refine g_obj Tk Tryz.func55 (hO _) ?_ | refine s_obj Tk (hO _) ?_
    first | refine g_elem Tk Tryz.func55 (gl) ?_ | refine s_elem Tk (gl) ?_
    first | refine g_cnd Tk Tryz.func55 rfl (fun g2 => ?_) (fun g2 => ?_) | refine g_know Tk Tryz.func55 rfl (fun g2 => ?_) (fun g2 => ?_) | refine s_know Tk (fun g2 => ?_) (fun g2 => ?_)
    · have g2 : y = x := beqT g2
      subst g2
      refine g_ret Tk (r := bb true) rfl rfl rfl trivial rfl rfl ?_
      rw [hno]
      simp
    · have g2 : y ≠ x := beqF g2
      have hno : R = decide (x ∈ l.drop (i + 1)) := by
        rw [hno]
        exact decide_eq_decide.2 ⟨fun h => h.resolve_left (Ne.symm g2), .inr⟩
      refine g_loop ?_
      exact ih (i + 1) _ _ ⟨h1, hno⟩ (by omega) ⟨rfl, rfl, congrArg ii (wsucc h1 hl), trivial⟩ rfl trivial rfl rfl
  · have h1 : l.length ≤ i := by simpa using g1
    simp only [List.drop_eq_nil_of_le h1] at hno
    refine g_ret Tk (r := bb false) rfl rfl rfl trivial rfl rfl ?_
    rw [hno]
    simp
set_option maxHeartbeats 4000000 in
theorem reach20 (O : List Heap) (a : Aut) (fr ev : List Int) (n : Nat) (hst : a.states = n) (hn : n ≤ 4096) (hed : a.edges.length ≤ 1000000) (hto : ∀ x ∈ a.edges, 0 ≤ x.2.2 ∧ x.2.2 < (n : Int)) (hfr : fr.length ≤ 1000000) (hev : ev.length ≤ max63) :
    ASpec Tryz.prog 20 [autD a, ints fr, ints ev] O (ints (clo a.edges (fun x => decide (x ∈ ev)) n fr)) [] O := by
  obtain ⟨al, st, mk, es⟩ := a
  simp only at hst hed hto ⊢
  subst hst
  unfold clo reachB
  generalize hK : rlB es (fun x => decide (x ∈ ev)) (fr.length + n) 0 fr = KK
  refine aspec_stop [11] Tk Tryz.func20 rfl Tryz.call20 Tryz.ntmps20 (Nat.le_of_ble_eq_true rfl) fun E => ?_
  refine g_run Tk Tryz.func20 ?_
  first | refine g_need Tk Tryz.func20 (by exact ⟨by show (0 + fr.length) * 8 ≤ 140737488355328; omega, by show 0 + fr.length ≤ 9223372036854775807; omega⟩) ?_ | refine s_need Tk (by exact ⟨by show (0 + fr.length) * 8 ≤ 140737488355328; omega, by show 0 + fr.length ≤ 9223372036854775807; omega⟩) ?_
  refine g_loop ?_
  refine rch_wk (wk_cut (l := [(2, ints ev), (3, .own 0 3 0 0), (7, .osl 0 13), (8, ii (0 : Nat))]) (Hv := [(3, .box [ints al, ii n, ints mk, edgs es]), (13, oints fr)]) ⟨rfl, rfl, rfl, rfl, trivial⟩ rfl ⟨rfl, ?_, trivial⟩ rfl rfl) ?_
  · show some (Ob.arr 3 1 (0 + fr.length) ([] ++ fr.map fun x => [vi x]) true) = some (oints fr)
    rw [Nat.zero_add, List.nil_append]
  refine rch_wk (wk_ren 13 56 rfl rfl rfl) ?_
  refine rch_loop2 (fun x : Nat × Nat × List Int => [(2, ints ev), (3, .own 0 3 0 0), (7, .osl 0 56), (8, ii x.1)]) (fun x => [(3, .box [ints al, ii n, ints mk, edgs es]), (56, oints x.2.2)]) (fun _ => O) 61
    (fun x => x.1 ≤ x.2.2.length ∧ grOk n fr x.2.2 ∧ x.2.1 + x.1 = fr.length + n ∧ rlB es (fun x => decide (x ∈ ev)) x.2.1 x.1 x.2.2 = KK) (fun x => x.2.1) (0, fr.length + n, fr) ⟨Nat.zero_le _, grOk_refl n fr, rfl, hK⟩ ⟨rfl, rfl, rfl, rfl, trivial⟩ rfl ⟨rfl, rfl, trivial⟩ rfl rfl ?_
  clear hK
  rintro ⟨i, f, l⟩ ⟨hi, hok, hf, hno⟩ ih
  simp only at hi hok hf hno
  have hll := (grOk_len hok).2
  refine g_run Tk Tryz.func20 ?_
  first | refine g_cnd Tk Tryz.func20 rfl (fun g1 => ?_) (fun g1 => ?_) | refine g_know Tk Tryz.func20 rfl (fun g1 => ?_) (fun g1 => ?_) | refine s_know Tk (fun g1 => ?_) (fun g1 => ?_)
  · have h1 : i < l.length := by simpa using g1
    obtain ⟨f, rfl⟩ : ∃ f', f = f' + 1 := ⟨f - 1, by omega⟩
    have hgi : l[i]? = some l[i] := List.getElem?_eq_getElem h1
    simp only [rlB, hgi] at hno
    generalize hs : l[i] = s at *
    refine g_loop ?_
    refine rch_loop2 (fun x : Nat × List Int => [(2, ints ev), (3, .own 0 3 0 0), (7, .osl 0 56), (8, ii i), (9, ii x.1)]) (fun x => [(3, .box [ints al, ii n, ints mk, edgs es]), (56, oints x.2)]) (fun _ => O) 61
      (fun x => x.1 ≤ es.length ∧ grOk n fr x.2 ∧ x.2[i]? = some s ∧ rlB es (fun x => decide (x ∈ ev)) f (i + 1) (rvB (fun x => decide (x ∈ ev)) s (es.drop x.1) x.2) = KK) (fun x => es.length - x.1) (0, l) ⟨Nat.zero_le _, hok, hgi, by simpa using hno⟩ ⟨rfl, rfl, rfl, rfl, rfl, trivial⟩ rfl ⟨rfl, rfl, trivial⟩ rfl rfl ?_
    clear hno
    rintro ⟨k, m⟩ ⟨hk, hok2, hgs, hno⟩ ih2
    simp only at hk hok2 hgs hno
    have hml := (grOk_len hok2).2
    have him : i < m.length := (List.getElem?_eq_some_iff.1 hgs).1
    refine g_run Tk Tryz.func20 ?_
    first | refine g_cnd Tk Tryz.func20 rfl (fun g2 => ?_) (fun g2 => ?_) | refine g_know Tk Tryz.func20 rfl (fun g2 => ?_) (fun g2 => ?_) | refine s_know Tk (fun g2 => ?_) (fun g2 => ?_)
    · have h2 : k < es.length := by simpa using g2
      have ge : (es.map edgI)[(k : Int).toNat]? = some (edgI es[k]) := get_mapZ h2
      have gs : (m.map fun x => [vi x])[(i : Int).toNat]? = some [vi s] := by rw [Int.toNat_natCast, List.getElem?_map, hgs]; rfl
      have hte := hto _ (List.getElem_mem h2)
      rw [List.drop_eq_getElem_cons h2] at hno
      simp only [rvB] at hno
      generalize es[k] = e at *
      obtain ⟨ef, ee, et⟩ := e
      simp only at hno hte
      first | refine g_need Tk Tryz.func20 (by exact ⟨by omega, by show (k : Int) < (es.length : Int); omega⟩) ?_ | refine s_need Tk (by exact ⟨by omega, by show (k : Int) < (es.length : Int); omega⟩) ?_
      first | refine g_elem Tk Tryz.func20 (ge) ?_ | refine s_elem Tk (ge) ?_
      refine g_drawn Tk Tryz.func20 mixedT rfl ?_
      first | refine g_need Tk Tryz.func20 (by exact ⟨by omega, by show (i : Int) < (m.length : Int); omega⟩) ?_ | refine s_need Tk (by exact ⟨by omega, by show (i : Int) < (m.length : Int); omega⟩) ?_
      first | refine g_elem Tk Tryz.func20 (gs) ?_ | refine s_elem Tk (gs) ?_
      first | refine g_cnd Tk Tryz.func20 rfl (fun c1 => ?_) (fun c1 => ?_) | refine g_know Tk Tryz.func20 rfl (fun c1 => ?_) (fun c1 => ?_) | refine s_know Tk (fun c1 => ?_) (fun c1 => ?_)
      · have c1 : ef = s := beqT c1
        first | refine g_call Tk Tryz.func20 (has55 _ ev ee hev) rfl rfl rfl rfl rfl ?_ | refine s_callq Tk (fun _ => has55 _ ev ee hev) rfl rfl rfl ?_
        first | refine g_cnd Tk Tryz.func20 rfl (fun c2 => ?_) (fun c2 => ?_) | refine g_know Tk Tryz.func20 rfl (fun c2 => ?_) (fun c2 => ?_) | refine s_know Tk (fun c2 => ?_) (fun c2 => ?_)
        · have c2 : ee ∈ ev := of_decide_eq_true c2
          refine s_call Tk (has55o _ m et 0 56 rfl (by simp only [max63]; omega)) rfl rfl rfl ?_
          refine e_done Tk Tryz.func20 (by kernel_rfl) ?_
          first | refine g_cnd Tk Tryz.func20 rfl (fun c3 => ?_) (fun c3 => ?_) | refine g_know Tk Tryz.func20 rfl (fun c3 => ?_) (fun c3 => ?_) | refine s_know Tk (fun c3 => ?_) (fun c3 => ?_)
          · have c3 : et ∉ m := of_decide_eq_false (notT c3)
            rw [if_pos ⟨c1, decide_eq_true c2, c3⟩] at hno
            first | refine g_need Tk Tryz.func20 (by exact ⟨by show (m.length + 1) * 8 ≤ 140737488355328; omega, by show m.length + 1 ≤ 9223372036854775807; omega⟩) ?_ | refine s_need Tk (by exact ⟨by show (m.length + 1) * 8 ≤ 140737488355328; omega, by show m.length + 1 ≤ 9223372036854775807; omega⟩) ?_
            refine g_loop ?_
            refine ih2 (k + 1, m ++ [et]) _ _ ⟨h2, grOk_app hok2 hte c3, by rw [List.getElem?_append_left him]; exact hgs, hno⟩ (by simp only; omega) ⟨rfl, rfl, rfl, rfl, congrArg ii (wsucc (n := 1010000) (by omega) (by decide)), trivial⟩ rfl ⟨rfl, ?_, trivial⟩ rfl rfl
            show some (Ob.arr 3 1 (m.length + 1) ((m.map fun x => [vi x]) ++ [[vi et]]) true) = some (oints (m ++ [et]))
            simp
          · have c3 : et ∈ m := of_decide_eq_true (notF c3)
            rw [if_neg (fun h => h.2.2 c3)] at hno
            refine g_loop ?_
            exact ih2 (k + 1, m) _ _ ⟨h2, hok2, hgs, hno⟩ (by simp only; omega) ⟨rfl, rfl, rfl, rfl, congrArg ii (wsucc (n := 1010000) (by omega) (by decide)), trivial⟩ rfl ⟨rfl, rfl, trivial⟩ rfl rfl
        · have c2 : ee ∉ ev := of_decide_eq_false c2
          rw [if_neg (fun h => c2 (of_decide_eq_true h.2.1))] at hno
          refine e_done Tk Tryz.func20 (by kernel_rfl) ?_
          repeat (first | refine gcT Tk Tryz.func20 rfl ?_ | refine gkT Tk Tryz.func20 rfl ?_ | refine skT Tk ?_ | refine gcF Tk Tryz.func20 rfl ?_ | refine gkF Tk Tryz.func20 rfl ?_ | refine skF Tk ?_)
          refine g_loop ?_
          exact ih2 (k + 1, m) _ _ ⟨h2, hok2, hgs, hno⟩ (by simp only; omega) ⟨rfl, rfl, rfl, rfl, congrArg ii (wsucc (n := 1010000) (by omega) (by decide)), trivial⟩ rfl ⟨rfl, rfl, trivial⟩ rfl rfl
      · have c1 : ef ≠ s := beqF c1
        rw [if_neg (fun h => c1 h.1)] at hno
        repeat (first | refine gcT Tk Tryz.func20 rfl ?_ | refine gkT Tk Tryz.func20 rfl ?_ | refine skT Tk ?_ | refine gcF Tk Tryz.func20 rfl ?_ | refine gkF Tk Tryz.func20 rfl ?_ | refine skF Tk ?_)
        refine e_done Tk Tryz.func20 (by kernel_rfl) ?_
        repeat (first | refine gcT Tk Tryz.func20 rfl ?_ | refine gkT Tk Tryz.func20 rfl ?_ | refine skT Tk ?_ | refine gcF Tk Tryz.func20 rfl ?_ | refine gkF Tk Tryz.func20 rfl ?_ | refine skF Tk ?_)
        refine g_loop ?_
        exact ih2 (k + 1, m) _ _ ⟨h2, hok2, hgs, hno⟩ (by simp only; omega) ⟨rfl, rfl, rfl, rfl, congrArg ii (wsucc (n := 1010000) (by omega) (by decide)), trivial⟩ rfl ⟨rfl, rfl, trivial⟩ rfl rfl
    · have h2 : es.length ≤ k := by simpa using g2
      rw [List.drop_eq_nil_of_le h2] at hno
      simp only [rvB] at hno
      refine g_loop ?_
      exact ih (i + 1, f, m) _ _ ⟨him, hok2, by simp only; omega, hno⟩ (by simp only; omega) ⟨rfl, rfl, rfl, congrArg ii (wsucc (n := 1010000) (by omega) (by decide)), trivial⟩ rfl ⟨rfl, rfl, trivial⟩ rfl rfl
  · have h1 : l.length ≤ i := by simpa using g1
    rw [rlB_done h1] at hno
    subst hno
    refine g_stop ?_
    refine rch_wk (wk_freeze 56 rfl rfl) ?_
    refine g_run Tk Tryz.func20 ?_
    refine g_go Tk Tryz.func20 ?_
    first | refine g_call Tk Tryz.func20 (sorted56 _ l n (by omega) (by simp only [max63]; omega)) rfl rfl rfl rfl rfl ?_ | refine s_callq Tk (fun _ => sorted56 _ l n (by omega) (by simp only [max63]; omega)) rfl rfl rfl ?_
    refine g_ret Tk (r := ints (sortedBelow l n)) rfl rfl rfl trivial rfl rfl ?_
    rfl
end Go.AI
