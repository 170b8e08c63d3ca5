/- The layer of abstract runs, part 42. -/
import Derived.Test.YtonnakcgopcfnaaDoorJuniperZO
import Derived.KernelRfl
set_option linter.unusedSimpArgs false
set_option linter.unusedVariables false
set_option linter.all false

/- Automata: BinarySearchFunc, out, Check. -/
namespace Go.AI
open Go.Proofs
set_option maxRecDepth 20000
theorem checkSet159 (O : List Heap) (l : List Int) (n : Int) (hl : l.length ≤ max63) : ASpec Tryd.prog 159 [ints l, ii n] O (ii (checkSet n l none)) [] O := by
  generalize hR : checkSet n l none = R
  refine aspec_stop [6, 8] Tk Tryd.func159 rfl Tryd.call159 Tryd.ntmps159 (Nat.le_of_ble_eq_true rfl) fun E => ?_
  refine g_run Tk Tryd.func159 ?_
  refine g_loop ?_
  refine rch_loop2 (fun x : Nat × Option Int => [(0, ints l), (1, ii n), (7, ints l), (8, ii l.length), (9, ii x.1)]) (fun _ => []) (fun _ => O) 35
    (fun x => x.1 ≤ l.length ∧ checkSet n (l.drop x.1) x.2 = R ∧ ((x.1 = 0 ∧ x.2 = none) ∨ ∃ h : 0 < x.1 ∧ x.1 - 1 < l.length, x.2 = some (l[x.1 - 1]'h.2))) (fun x => l.length - x.1) (0, none) ⟨Nat.zero_le _, hR, .inl ⟨rfl, rfl⟩⟩ ⟨rfl, rfl, rfl, rfl, rfl, trivial⟩ rfl trivial rfl rfl ?_
  rintro ⟨i, prev⟩ ⟨hi, hno, hp⟩ ih
  simp only at hi hno hp
  clear hR
  refine g_run Tk Tryd.func159 ?_
  first | refine g_cnd Tk Tryd.func159 rfl (fun g1 => ?_) (fun g1 => ?_) | refine g_know Tk Tryd.func159 rfl (fun g1 => ?_) (fun g1 => ?_) | refine s_know Tk (fun g1 => ?_) (fun g1 => ?_)
  · have h1 : i < l.length := by simpa using g1
    have gl : (l.map fun x => [vi x])[(i : Int).toNat]? = some [vi l[i]] := get_mapZ (f := fun x => [vi x]) h1
    have dl : l.drop i = l[i] :: l.drop (i + 1) := List.drop_eq_getElem_cons h1
    rw [dl] at hno
    simp only [checkSet] at hno
    clear dl
    have hi1 : ii (IntKind.i64.wrap ((i : Int) + 1)) = ii ((i + 1 : Nat) : Int) := congrArg ii (wsucc h1 hl)
    have hnext : (i + 1 = 0 ∧ some l[i] = none) ∨ ∃ h : 0 < i + 1 ∧ i + 1 - 1 < l.length, some l[i] = some (l[i + 1 - 1]'h.2) := .inr ⟨⟨by omega, by omega⟩, rfl⟩
    generalize hx : l[i] = x at *
    first | refine g_need Tk Tryd.func159 (by exact ⟨by omega, by show (i : Int) < (l.length : Int); omega⟩) ?_ | refine s_need Tk (by exact ⟨by omega, by show (i : Int) < (l.length : Int); omega⟩) ?_
    first | refine g_elem Tk Tryd.func159 (gl) ?_ | refine s_elem Tk (gl) ?_
    apply join_p (P := ¬ (x < 0 ∨ x ≥ n)) (s6 := { σ := [(0, ints l), (1, ii n), (5, ii i), (6, ii x), (7, ints l), (8, ii l.length), (9, ii i)], S := [] :: O, n := 35 })
    · intro J
      first | refine g_cnd Tk Tryd.func159 rfl (fun c1 => ?_) (fun c1 => ?_) | refine g_know Tk Tryd.func159 rfl (fun c1 => ?_) (fun c1 => ?_) | refine s_know Tk (fun c1 => ?_) (fun c1 => ?_)
      · have c1 : x < 0 := of_decide_eq_true c1
        rw [if_pos (.inl c1)] at hno
        subst hno
        repeat (first | refine g_cnd Tk Tryd.func159 rfl (fun _ => ?_) (fun h => absurd h (by decide)) | refine g_know Tk Tryd.func159 rfl (fun _ => ?_) (fun h => absurd h (by decide)) | refine s_know Tk (fun _ => ?_) (fun h => absurd h (by decide)) | refine g_cnd Tk Tryd.func159 rfl (fun h => absurd h (by decide)) (fun _ => ?_) | refine g_know Tk Tryd.func159 rfl (fun h => absurd h (by decide)) (fun _ => ?_) | refine s_know Tk (fun h => absurd h (by decide)) (fun _ => ?_) | refine g_cnd Tk Tryd.func159 rfl (fun _ => ?_) (fun h => absurd (show true = false from h) (by decide)) | refine g_know Tk Tryd.func159 rfl (fun _ => ?_) (fun h => absurd (show true = false from h) (by decide)) | refine s_know Tk (fun _ => ?_) (fun h => absurd (show true = false from h) (by decide)) | refine g_cnd Tk Tryd.func159 rfl (fun h => absurd (show false = true from h) (by decide)) (fun _ => ?_) | refine g_know Tk Tryd.func159 rfl (fun h => absurd (show false = true from h) (by decide)) (fun _ => ?_) | refine s_know Tk (fun h => absurd (show false = true from h) (by decide)) (fun _ => ?_))
        refine g_ret Tk (r := ii 2) rfl rfl rfl trivial rfl rfl ?_
        rfl
      have c1 : ¬ x < 0 := of_decide_eq_false c1
      first | refine g_cnd Tk Tryd.func159 rfl (fun c2 => ?_) (fun c2 => ?_) | refine g_know Tk Tryd.func159 rfl (fun c2 => ?_) (fun c2 => ?_) | refine s_know Tk (fun c2 => ?_) (fun c2 => ?_)
      · have c2 : x ≥ n := of_decide_eq_true c2
        rw [if_pos (.inr c2)] at hno
        subst hno
        refine g_ret Tk (r := ii 2) rfl rfl rfl trivial rfl rfl ?_
        rfl
      have c2 : ¬ x ≥ n := of_decide_eq_false c2
      refine g_stop ?_
      refine rch_meet (J (by rintro (h | h); exact c1 h; exact c2 h)) ⟨rfl, rfl, rfl, rfl, rfl, rfl, rfl, trivial⟩ rfl trivial rfl rfl
    · intro hc
      rw [if_neg hc] at hno
      refine g_run Tk Tryd.func159 ?_
      refine g_go Tk Tryd.func159 ?_
      rcases hp with ⟨h0, hpr⟩ | ⟨hp1, hpr⟩
      · rw [hpr] at hno
        rw [if_neg (by simp)] at hno
        first | refine g_cnd Tk Tryd.func159 rfl (fun c3 => ?_) (fun c3 => ?_) | refine g_know Tk Tryd.func159 rfl (fun c3 => ?_) (fun c3 => ?_) | refine s_know Tk (fun c3 => ?_) (fun c3 => ?_)
        · have c3 : (i : Int) > 0 := of_decide_eq_true c3
          omega
        repeat (first | refine g_cnd Tk Tryd.func159 rfl (fun _ => ?_) (fun h => absurd h (by decide)) | refine g_know Tk Tryd.func159 rfl (fun _ => ?_) (fun h => absurd h (by decide)) | refine s_know Tk (fun _ => ?_) (fun h => absurd h (by decide)) | refine g_cnd Tk Tryd.func159 rfl (fun h => absurd h (by decide)) (fun _ => ?_) | refine g_know Tk Tryd.func159 rfl (fun h => absurd h (by decide)) (fun _ => ?_) | refine s_know Tk (fun h => absurd h (by decide)) (fun _ => ?_) | refine g_cnd Tk Tryd.func159 rfl (fun _ => ?_) (fun h => absurd (show true = false from h) (by decide)) | refine g_know Tk Tryd.func159 rfl (fun _ => ?_) (fun h => absurd (show true = false from h) (by decide)) | refine s_know Tk (fun _ => ?_) (fun h => absurd (show true = false from h) (by decide)) | refine g_cnd Tk Tryd.func159 rfl (fun h => absurd (show false = true from h) (by decide)) (fun _ => ?_) | refine g_know Tk Tryd.func159 rfl (fun h => absurd (show false = true from h) (by decide)) (fun _ => ?_) | refine s_know Tk (fun h => absurd (show false = true from h) (by decide)) (fun _ => ?_))
        refine g_stop ?_
        refine g_run Tk Tryd.func159 ?_
        refine g_go Tk Tryd.func159 ?_
        refine g_loop ?_
        exact ih (i + 1, some x) _ _ ⟨h1, hno, hnext⟩ (by simp only; omega) ⟨rfl, rfl, rfl, rfl, hi1, trivial⟩ rfl trivial rfl rfl
      · have gp : (l.map fun x => [vi x])[(IntKind.i64.wrap ((i : Int) - 1)).toNat]? = some [vi (l[i - 1]'hp1.2)] := by
          rw [w64 (by omega) (by simp only [max63] at hl; omega), show ((i : Int) - 1).toNat = i - 1 by omega]
          rw [List.getElem?_map, List.getElem?_eq_getElem hp1.2]
          rfl
        have hwp : IntKind.i64.wrap ((i : Int) - 1) = (i : Int) - 1 := w64 (by omega) (by simp only [max63] at hl; omega)
        generalize l[i - 1]'hp1.2 = y at *
        first | refine g_cnd Tk Tryd.func159 rfl (fun c3 => ?_) (fun c3 => ?_) | refine g_know Tk Tryd.func159 rfl (fun c3 => ?_) (fun c3 => ?_) | refine s_know Tk (fun c3 => ?_) (fun c3 => ?_)
        rotate_left
        · have c3 : ¬ (i : Int) > 0 := of_decide_eq_false c3
          omega
        first | refine g_need Tk Tryd.func159 (by rw [hwp]; exact ⟨by omega, by show (i : Int) - 1 < (l.length : Int); omega⟩) ?_ | refine s_need Tk (by rw [hwp]; exact ⟨by omega, by show (i : Int) - 1 < (l.length : Int); omega⟩) ?_
        first | refine g_elem Tk Tryd.func159 (gp) ?_ | refine s_elem Tk (gp) ?_
        rw [hpr] at hno
        first | refine g_cnd Tk Tryd.func159 rfl (fun c4 => ?_) (fun c4 => ?_) | refine g_know Tk Tryd.func159 rfl (fun c4 => ?_) (fun c4 => ?_) | refine s_know Tk (fun c4 => ?_) (fun c4 => ?_)
        · have c4 : x ≤ y := of_decide_eq_true c4
          rw [if_pos (by simpa using c4)] at hno
          subst hno
          refine g_ret Tk (r := ii 5) rfl rfl rfl trivial rfl rfl ?_
          rfl
        have c4 : ¬ x ≤ y := of_decide_eq_false c4
        rw [if_neg (by simpa using c4)] at hno
        refine g_stop ?_
        refine g_run Tk Tryd.func159 ?_
        refine g_go Tk Tryd.func159 ?_
        refine g_loop ?_
        exact ih (i + 1, some x) _ _ ⟨h1, hno, hnext⟩ (by simp only; omega) ⟨rfl, rfl, rfl, rfl, hi1, trivial⟩ rfl trivial rfl rfl
  · have h1 : l.length ≤ i := by simpa using g1
    rw [List.drop_eq_nil_of_le h1] at hno
    simp only [checkSet] at hno
    subst hno
    refine g_ret Tk (r := ii 0) rfl rfl rfl trivial rfl rfl ?_
    rfl
end Go.AI


/- Automata: Check. -/
namespace Go.AI
open Go.Proofs
set_option maxRecDepth 20000
set_option maxHeartbeats 4000000 in
theorem checkEdges160 (O : List Heap) (a : Aut) (hl : a.edges.length ≤ max63) (hal : a.alpha.length ≤ max63) : ASpec Tryd.prog 160 [autD a] O (ii (chkEds a.alpha a.states none a.edges)) [] O := by
  obtain ⟨al, n, mk, es⟩ := a
  simp only at hl hal ⊢
  generalize hR : chkEds al n none es = R
  refine aspec_intro Tk Tryd.func160 rfl Tryd.call160 Tryd.ntmps160 (Nat.le_of_ble_eq_true rfl) fun E => ?_
  refine g_run Tk Tryd.func160 ?_
  refine g_loop ?_
  refine rch_loop2 (fun x : Nat × Option Edg => [(1, .own 0 1 0 0), (7, edgs es), (8, ii es.length), (9, ii x.1)]) (fun _ => [(1, .box [ints al, ii n, ints mk, edgs es])]) (fun _ => O) 72
    (fun x => x.1 ≤ es.length ∧ chkEds al n x.2 (es.drop x.1) = R ∧ ((x.1 = 0 ∧ x.2 = none) ∨ ∃ h : 0 < x.1 ∧ x.1 - 1 < es.length, x.2 = some (es[x.1 - 1]'h.2))) (fun x => es.length - x.1) (0, none) ⟨Nat.zero_le _, hR, .inl ⟨rfl, rfl⟩⟩ ⟨rfl, rfl, rfl, rfl, trivial⟩ rfl ⟨rfl, trivial⟩ rfl rfl ?_
  rintro ⟨i, prev⟩ ⟨hi, hno, hp⟩ ih
  simp only at hi hno hp
  clear hR
  refine g_run Tk Tryd.func160 ?_
  first | refine g_cnd Tk Tryd.func160 rfl (fun g1 => ?_) (fun g1 => ?_) | refine g_know Tk Tryd.func160 rfl (fun g1 => ?_) (fun g1 => ?_) | refine s_know Tk (fun g1 => ?_) (fun g1 => ?_)
  · have h1 : i < es.length := by simpa using g1
    have ge : (es.map edgI)[(i : Int).toNat]? = some (edgI es[i]) := get_mapZ h1
    have dl : es.drop i = es[i] :: es.drop (i + 1) := List.drop_eq_getElem_cons h1
    rw [dl] at hno
    simp only [chkEds] at hno
    clear dl
    have hi1 : ii (IntKind.i64.wrap ((i : Int) + 1)) = ii ((i + 1 : Nat) : Int) := congrArg ii (wsucc h1 hl)
    have hnext : (i + 1 = 0 ∧ some es[i] = none) ∨ ∃ h : 0 < i + 1 ∧ i + 1 - 1 < es.length, some es[i] = some (es[i + 1 - 1]'h.2) := .inr ⟨⟨by omega, by omega⟩, rfl⟩
    have hcn := contains110 (l := al) (x := es[i].2.1) (hl := hal)
    generalize hx : es[i] = x at *
    obtain ⟨xf, xe, xt⟩ := x
    simp only at hno hcn
    first | refine g_need Tk Tryd.func160 (by exact ⟨by omega, by show (i : Int) < (es.length : Int); omega⟩) ?_ | refine s_need Tk (by exact ⟨by omega, by show (i : Int) < (es.length : Int); omega⟩) ?_
    first | refine g_elem Tk Tryd.func160 (ge) ?_ | refine s_elem Tk (ge) ?_
    first | refine g_cnd Tk Tryd.func160 rfl (fun c1 => ?_) (fun c1 => ?_) | refine g_know Tk Tryd.func160 rfl (fun c1 => ?_) (fun c1 => ?_) | refine s_know Tk (fun c1 => ?_) (fun c1 => ?_)
    · have c1 : xf < 0 := of_decide_eq_true c1
      rw [if_pos (.inl c1)] at hno
      subst hno
      repeat (first | refine g_cnd Tk Tryd.func160 rfl (fun _ => ?_) (fun h => absurd h (by decide)) | refine g_know Tk Tryd.func160 rfl (fun _ => ?_) (fun h => absurd h (by decide)) | refine s_know Tk (fun _ => ?_) (fun h => absurd h (by decide)) | refine g_cnd Tk Tryd.func160 rfl (fun h => absurd h (by decide)) (fun _ => ?_) | refine g_know Tk Tryd.func160 rfl (fun h => absurd h (by decide)) (fun _ => ?_) | refine s_know Tk (fun h => absurd h (by decide)) (fun _ => ?_) | refine g_cnd Tk Tryd.func160 rfl (fun _ => ?_) (fun h => absurd (show true = false from h) (by decide)) | refine g_know Tk Tryd.func160 rfl (fun _ => ?_) (fun h => absurd (show true = false from h) (by decide)) | refine s_know Tk (fun _ => ?_) (fun h => absurd (show true = false from h) (by decide)) | refine g_cnd Tk Tryd.func160 rfl (fun h => absurd (show false = true from h) (by decide)) (fun _ => ?_) | refine g_know Tk Tryd.func160 rfl (fun h => absurd (show false = true from h) (by decide)) (fun _ => ?_) | refine s_know Tk (fun h => absurd (show false = true from h) (by decide)) (fun _ => ?_))
      refine g_ret Tk (r := ii 2) rfl rfl rfl trivial rfl rfl ?_
      rfl
    have c1 : ¬ xf < 0 := of_decide_eq_false c1
    first | refine g_cnd Tk Tryd.func160 rfl (fun c2 => ?_) (fun c2 => ?_) | refine g_know Tk Tryd.func160 rfl (fun c2 => ?_) (fun c2 => ?_) | refine s_know Tk (fun c2 => ?_) (fun c2 => ?_)
    · have c2 : xf ≥ n := of_decide_eq_true c2
      rw [if_pos (.inr (.inl c2))] at hno
      subst hno
      repeat (first | refine g_cnd Tk Tryd.func160 rfl (fun _ => ?_) (fun h => absurd h (by decide)) | refine g_know Tk Tryd.func160 rfl (fun _ => ?_) (fun h => absurd h (by decide)) | refine s_know Tk (fun _ => ?_) (fun h => absurd h (by decide)) | refine g_cnd Tk Tryd.func160 rfl (fun h => absurd h (by decide)) (fun _ => ?_) | refine g_know Tk Tryd.func160 rfl (fun h => absurd h (by decide)) (fun _ => ?_) | refine s_know Tk (fun h => absurd h (by decide)) (fun _ => ?_) | refine g_cnd Tk Tryd.func160 rfl (fun _ => ?_) (fun h => absurd (show true = false from h) (by decide)) | refine g_know Tk Tryd.func160 rfl (fun _ => ?_) (fun h => absurd (show true = false from h) (by decide)) | refine s_know Tk (fun _ => ?_) (fun h => absurd (show true = false from h) (by decide)) | refine g_cnd Tk Tryd.func160 rfl (fun h => absurd (show false = true from h) (by decide)) (fun _ => ?_) | refine g_know Tk Tryd.func160 rfl (fun h => absurd (show false = true from h) (by decide)) (fun _ => ?_) | refine s_know Tk (fun h => absurd (show false = true from h) (by decide)) (fun _ => ?_))
      refine g_ret Tk (r := ii 2) rfl rfl rfl trivial rfl rfl ?_
      rfl
    have c2 : ¬ xf ≥ n := of_decide_eq_false c2
    first | refine g_cnd Tk Tryd.func160 rfl (fun c3 => ?_) (fun c3 => ?_) | refine g_know Tk Tryd.func160 rfl (fun c3 => ?_) (fun c3 => ?_) | refine s_know Tk (fun c3 => ?_) (fun c3 => ?_)
    · have c3 : xt < 0 := of_decide_eq_true c3
      rw [if_pos (.inr (.inr (.inl c3)))] at hno
      subst hno
      repeat (first | refine g_cnd Tk Tryd.func160 rfl (fun _ => ?_) (fun h => absurd h (by decide)) | refine g_know Tk Tryd.func160 rfl (fun _ => ?_) (fun h => absurd h (by decide)) | refine s_know Tk (fun _ => ?_) (fun h => absurd h (by decide)) | refine g_cnd Tk Tryd.func160 rfl (fun h => absurd h (by decide)) (fun _ => ?_) | refine g_know Tk Tryd.func160 rfl (fun h => absurd h (by decide)) (fun _ => ?_) | refine s_know Tk (fun h => absurd h (by decide)) (fun _ => ?_) | refine g_cnd Tk Tryd.func160 rfl (fun _ => ?_) (fun h => absurd (show true = false from h) (by decide)) | refine g_know Tk Tryd.func160 rfl (fun _ => ?_) (fun h => absurd (show true = false from h) (by decide)) | refine s_know Tk (fun _ => ?_) (fun h => absurd (show true = false from h) (by decide)) | refine g_cnd Tk Tryd.func160 rfl (fun h => absurd (show false = true from h) (by decide)) (fun _ => ?_) | refine g_know Tk Tryd.func160 rfl (fun h => absurd (show false = true from h) (by decide)) (fun _ => ?_) | refine s_know Tk (fun h => absurd (show false = true from h) (by decide)) (fun _ => ?_))
      refine g_ret Tk (r := ii 2) rfl rfl rfl trivial rfl rfl ?_
      rfl
    have c3 : ¬ xt < 0 := of_decide_eq_false c3
    first | refine g_cnd Tk Tryd.func160 rfl (fun c4 => ?_) (fun c4 => ?_) | refine g_know Tk Tryd.func160 rfl (fun c4 => ?_) (fun c4 => ?_) | refine s_know Tk (fun c4 => ?_) (fun c4 => ?_)
    · have c4 : xt ≥ n := of_decide_eq_true c4
      rw [if_pos (.inr (.inr (.inr c4)))] at hno
      subst hno
      refine g_ret Tk (r := ii 2) rfl rfl rfl trivial rfl rfl ?_
      rfl
    have c4 : ¬ xt ≥ n := of_decide_eq_false c4
    rw [if_neg (by omega)] at hno
    first | refine g_call Tk Tryd.func160 (hcn _) rfl rfl rfl rfl rfl ?_ | refine s_callq Tk (fun _ => hcn _) rfl rfl rfl ?_
    first | refine g_cnd Tk Tryd.func160 rfl (fun c5 => ?_) (fun c5 => ?_) | refine g_know Tk Tryd.func160 rfl (fun c5 => ?_) (fun c5 => ?_) | refine s_know Tk (fun c5 => ?_) (fun c5 => ?_)
    · have c5 : decide (xe ∈ al) = false := notT c5
      have c5 : xe ∉ al := of_decide_eq_false c5
      rw [if_pos c5] at hno
      subst hno
      refine g_ret Tk (r := ii 9) rfl rfl rfl trivial rfl rfl ?_
      rfl
    have c5 : decide (xe ∈ al) = true := notF c5
    have c5 : xe ∈ al := of_decide_eq_true c5
    rw [if_neg (by simpa using c5)] at hno
    rcases hp with ⟨h0, hpr⟩ | ⟨hp1, hpr⟩
    · rw [hpr, if_neg (by simp)] at hno
      first | refine g_cnd Tk Tryd.func160 rfl (fun c6 => ?_) (fun c6 => ?_) | refine g_know Tk Tryd.func160 rfl (fun c6 => ?_) (fun c6 => ?_) | refine s_know Tk (fun c6 => ?_) (fun c6 => ?_)
      rotate_left
      · have c6 : (i : Int) ≠ 0 := beqF c6
        omega
      refine g_loop ?_
      exact ih (i + 1, some (xf, xe, xt)) _ _ ⟨h1, hno, hnext⟩ (by simp only; omega) ⟨rfl, rfl, rfl, hi1, trivial⟩ rfl ⟨rfl, trivial⟩ rfl rfl
    · have gp : (es.map edgI)[(IntKind.i64.wrap ((i : Int) - 1)).toNat]? = some (edgI (es[i - 1]'hp1.2)) := by
        rw [w64 (by omega) (by simp only [max63] at hl; omega), show ((i : Int) - 1).toNat = i - 1 by omega]
        rw [List.getElem?_map, List.getElem?_eq_getElem hp1.2]
        rfl
      have hwp : IntKind.i64.wrap ((i : Int) - 1) = (i : Int) - 1 := w64 (by omega) (by simp only [max63] at hl; omega)
      rw [hpr] at hno
      generalize es[i - 1]'hp1.2 = y at *
      obtain ⟨yf, ye, yt⟩ := y
      simp only [Option.any_some, decide_eq_true_eq] at hno
      first | refine g_cnd Tk Tryd.func160 rfl (fun c6 => ?_) (fun c6 => ?_) | refine g_know Tk Tryd.func160 rfl (fun c6 => ?_) (fun c6 => ?_) | refine s_know Tk (fun c6 => ?_) (fun c6 => ?_)
      · have c6 : (i : Int) = 0 := beqT c6
        omega
      first | refine g_need Tk Tryd.func160 (by rw [hwp]; exact ⟨by omega, by show (i : Int) - 1 < (es.length : Int); omega⟩) ?_ | refine s_need Tk (by rw [hwp]; exact ⟨by omega, by show (i : Int) - 1 < (es.length : Int); omega⟩) ?_
      first | refine g_elem Tk Tryd.func160 (gp) ?_ | refine s_elem Tk (gp) ?_
      first | refine g_cnd Tk Tryd.func160 rfl (fun c7 => ?_) (fun c7 => ?_) | refine g_know Tk Tryd.func160 rfl (fun c7 => ?_) (fun c7 => ?_) | refine s_know Tk (fun c7 => ?_) (fun c7 => ?_)
      · have c7 : xf < yf := of_decide_eq_true c7
        rw [if_pos (.inl c7)] at hno
        subst hno
        repeat (first | refine g_cnd Tk Tryd.func160 rfl (fun _ => ?_) (fun h => absurd h (by decide)) | refine g_know Tk Tryd.func160 rfl (fun _ => ?_) (fun h => absurd h (by decide)) | refine s_know Tk (fun _ => ?_) (fun h => absurd h (by decide)) | refine g_cnd Tk Tryd.func160 rfl (fun h => absurd h (by decide)) (fun _ => ?_) | refine g_know Tk Tryd.func160 rfl (fun h => absurd h (by decide)) (fun _ => ?_) | refine s_know Tk (fun h => absurd h (by decide)) (fun _ => ?_) | refine g_cnd Tk Tryd.func160 rfl (fun _ => ?_) (fun h => absurd (show true = false from h) (by decide)) | refine g_know Tk Tryd.func160 rfl (fun _ => ?_) (fun h => absurd (show true = false from h) (by decide)) | refine s_know Tk (fun _ => ?_) (fun h => absurd (show true = false from h) (by decide)) | refine g_cnd Tk Tryd.func160 rfl (fun h => absurd (show false = true from h) (by decide)) (fun _ => ?_) | refine g_know Tk Tryd.func160 rfl (fun h => absurd (show false = true from h) (by decide)) (fun _ => ?_) | refine s_know Tk (fun h => absurd (show false = true from h) (by decide)) (fun _ => ?_))
        refine g_ret Tk (r := ii 5) rfl rfl rfl trivial rfl rfl ?_
        rfl
      have c7 : ¬ xf < yf := of_decide_eq_false c7
      first | refine g_cnd Tk Tryd.func160 rfl (fun c8 => ?_) (fun c8 => ?_) | refine g_know Tk Tryd.func160 rfl (fun c8 => ?_) (fun c8 => ?_) | refine s_know Tk (fun c8 => ?_) (fun c8 => ?_)
      · have c8 : xf = yf := beqT c8
        first | refine g_cnd Tk Tryd.func160 rfl (fun c9 => ?_) (fun c9 => ?_) | refine g_know Tk Tryd.func160 rfl (fun c9 => ?_) (fun c9 => ?_) | refine s_know Tk (fun c9 => ?_) (fun c9 => ?_)
        · have c9 : xe ≤ ye := of_decide_eq_true c9
          rw [if_pos (.inr ⟨c8, c9⟩)] at hno
          subst hno
          refine g_ret Tk (r := ii 5) rfl rfl rfl trivial rfl rfl ?_
          rfl
        · have c9 : ¬ xe ≤ ye := of_decide_eq_false c9
          rw [if_neg (by omega)] at hno
          refine g_loop ?_
          exact ih (i + 1, some (xf, xe, xt)) _ _ ⟨h1, hno, hnext⟩ (by simp only; omega) ⟨rfl, rfl, rfl, hi1, trivial⟩ rfl ⟨rfl, trivial⟩ rfl rfl
      · have c8 : xf ≠ yf := beqF c8
        rw [if_neg (by omega)] at hno
        repeat (first | refine g_cnd Tk Tryd.func160 rfl (fun _ => ?_) (fun h => absurd h (by decide)) | refine g_know Tk Tryd.func160 rfl (fun _ => ?_) (fun h => absurd h (by decide)) | refine s_know Tk (fun _ => ?_) (fun h => absurd h (by decide)) | refine g_cnd Tk Tryd.func160 rfl (fun h => absurd h (by decide)) (fun _ => ?_) | refine g_know Tk Tryd.func160 rfl (fun h => absurd h (by decide)) (fun _ => ?_) | refine s_know Tk (fun h => absurd h (by decide)) (fun _ => ?_) | refine g_cnd Tk Tryd.func160 rfl (fun _ => ?_) (fun h => absurd (show true = false from h) (by decide)) | refine g_know Tk Tryd.func160 rfl (fun _ => ?_) (fun h => absurd (show true = false from h) (by decide)) | refine s_know Tk (fun _ => ?_) (fun h => absurd (show true = false from h) (by decide)) | refine g_cnd Tk Tryd.func160 rfl (fun h => absurd (show false = true from h) (by decide)) (fun _ => ?_) | refine g_know Tk Tryd.func160 rfl (fun h => absurd (show false = true from h) (by decide)) (fun _ => ?_) | refine s_know Tk (fun h => absurd (show false = true from h) (by decide)) (fun _ => ?_))
        refine g_loop ?_
        exact ih (i + 1, some (xf, xe, xt)) _ _ ⟨h1, hno, hnext⟩ (by simp only; omega) ⟨rfl, rfl, rfl, hi1, trivial⟩ rfl ⟨rfl, trivial⟩ rfl rfl
  · have h1 : es.length ≤ i := by simpa using g1
    rw [List.drop_eq_nil_of_le h1] at hno
    simp only [chkEds] at hno
    subst hno
    refine g_ret Tk (r := ii 0) rfl rfl rfl trivial rfl rfl ?_
    rfl
theorem check116 (O : List Heap) (a : Aut) (hl : a.edges.length ≤ max63) (hal : a.alpha.length ≤ max63) (hmk : a.marked.length ≤ max63) : ASpec Tryd.prog 116 [autD a] O (ii (chkA a)) [] O := by
  have h1 := fun O => checkSet159 O a.alpha 32 hal
  have h2 := fun O => checkSet159 O a.marked a.states hmk
  have h3 := fun O => checkEdges160 O a hl hal
  generalize hR : chkA a = R
  unfold chkA at hR
  generalize checkSet 32 a.alpha none = e1 at *
  generalize checkSet a.states a.marked none = e2 at *
  generalize chkEds a.alpha a.states none a.edges = e3 at *
  obtain ⟨al, n, mk, es⟩ := a
  simp only at hR h1 h2 h3
  refine aspec_intro Tk Tryd.func116 rfl Tryd.call116 Tryd.ntmps116 (Nat.le_of_ble_eq_true rfl) fun E => ?_
  refine g_run Tk Tryd.func116 ?_
  first | refine g_call Tk Tryd.func116 (h1 _) rfl rfl rfl rfl rfl ?_ | refine s_callq Tk (fun _ => h1 _) rfl rfl rfl ?_
  first | refine g_cnd Tk Tryd.func116 rfl (fun c1 => ?_) (fun c1 => ?_) | refine g_know Tk Tryd.func116 rfl (fun c1 => ?_) (fun c1 => ?_) | refine s_know Tk (fun c1 => ?_) (fun c1 => ?_)
  · have c1 : e1 ≠ 0 := bneT c1
    rw [if_pos c1] at hR
    subst hR
    refine g_ret Tk (r := ii e1) rfl rfl rfl trivial rfl rfl ?_
    rfl
  have c1 : e1 = 0 := bneF c1
  rw [if_neg (by simpa using c1)] at hR
  first | refine g_cnd Tk Tryd.func116 rfl (fun c2 => ?_) (fun c2 => ?_) | refine g_know Tk Tryd.func116 rfl (fun c2 => ?_) (fun c2 => ?_) | refine s_know Tk (fun c2 => ?_) (fun c2 => ?_)
  · have c2 : n < 0 := of_decide_eq_true c2
    rw [if_pos c2] at hR
    subst hR
    refine g_ret Tk (r := ii 2) rfl rfl rfl trivial rfl rfl ?_
    rfl
  have c2 : ¬ n < 0 := of_decide_eq_false c2
  rw [if_neg c2] at hR
  first | refine g_cnd Tk Tryd.func116 rfl (fun c3 => ?_) (fun c3 => ?_) | refine g_know Tk Tryd.func116 rfl (fun c3 => ?_) (fun c3 => ?_) | refine s_know Tk (fun c3 => ?_) (fun c3 => ?_)
  · have c3 : n > 4096 := of_decide_eq_true c3
    rw [if_pos c3] at hR
    subst hR
    refine g_ret Tk (r := ii 3) rfl rfl rfl trivial rfl rfl ?_
    rfl
  have c3 : ¬ n > 4096 := of_decide_eq_false c3
  rw [if_neg c3] at hR
  first | refine g_call Tk Tryd.func116 (h2 _) rfl rfl rfl rfl rfl ?_ | refine s_callq Tk (fun _ => h2 _) rfl rfl rfl ?_
  first | refine g_cnd Tk Tryd.func116 rfl (fun c4 => ?_) (fun c4 => ?_) | refine g_know Tk Tryd.func116 rfl (fun c4 => ?_) (fun c4 => ?_) | refine s_know Tk (fun c4 => ?_) (fun c4 => ?_)
  · have c4 : e2 ≠ 0 := bneT c4
    rw [if_pos c4] at hR
    subst hR
    refine g_ret Tk (r := ii e2) rfl rfl rfl trivial rfl rfl ?_
    rfl
  have c4 : e2 = 0 := bneF c4
  rw [if_neg (by simpa using c4)] at hR
  subst hR
  first | refine g_call Tk Tryd.func116 (h3 _) rfl rfl rfl rfl rfl ?_ | refine s_callq Tk (fun _ => h3 _) rfl rfl rfl ?_
  refine g_ret Tk (r := ii e3) rfl rfl rfl trivial rfl rfl ?_
  rfl
end Go.AI


/- Automata: what is canonical. -/
namespace Go.AI
open Go.Proofs
set_option maxRecDepth 20000
abbrev zBox : Ob := .box [.i (.v (.slice none 0 0)), ii 0, .i (.v (.slice none 0 0)), .i (.v (.slice none 0 0))]
end Go.AI


/- The examples of the chapter (19). -/
namespace Go.AI
open Go.Proofs
set_option maxRecDepth 20000
def plusE (op n : Int) : Ex := .mk op 0 0 [nE, kE n]
def counter19 (g : Ex) : Ext := ⟨[0, 1], 1, 0, [], [nVr 2], [⟨0, 0, 0, g, [⟨0, plusE 2 1⟩]⟩, ⟨0, 1, 0, plusE 6 2, [⟨0, zeroE⟩]⟩]⟩
theorem plus103 (O : List Heap) (op n : Int) : ASpec Tryd.prog 103 [ii op, ii n] O (exA (plusE op n)) [] O := by
  refine aspec_intro Tk Tryd.func103 rfl Tryd.call103 Tryd.ntmps103 (Nat.le_of_ble_eq_true rfl) fun E => ?_
  refine g_run Tk Tryd.func103 ?_
  refine g_ret_co Tk (r := _) rfl rfl rfl trivial rfl rfl ?_
  repeat' (first | refine coD_tup ?_ | refine coD_agg ?_ | refine coD_i ?_ | refine CoDL.cons ?_ ?_ | exact CoDL.nil | exact coI_nil | refine coI_sl ?_ | refine CoLL.cons ?_ ?_ | exact CoLL.nil | refine CoL.cons ?_ ?_ | exact CoL.nil | exact CoI.refl _ | exact CoL.refl _ | exact CoLL.refl _ | exact CoDL.refl _ | exact CoD.refl _)
theorem counter102 (O : List Heap) (x : Ex) : ASpec Tryd.prog 102 [exA x] O (extD (counter19 x)) [] O := by
  have hp := fun op n O => plus103 O op n
  refine aspec_intro Tk Tryd.func102 rfl Tryd.call102 Tryd.ntmps102 (Nat.le_of_ble_eq_true rfl) fun E => ?_
  refine g_run Tk Tryd.func102 ?_
  refine g_drawn Tk Tryd.func102 mixedT rfl ?_
  first | refine g_call Tk Tryd.func102 (hp 2 1 _) rfl rfl rfl rfl rfl ?_ | refine s_callq Tk (fun _ => hp 2 1 _) rfl rfl rfl ?_
  first | refine g_call Tk Tryd.func102 (hp 6 2 _) rfl rfl rfl rfl rfl ?_ | refine s_callq Tk (fun _ => hp 6 2 _) rfl rfl rfl ?_
  refine s_put Tk rfl rfl rfl ?_
  refine e_done Tk Tryd.func102 (by kernel_rfl) ?_
  refine g_ret_co Tk (r := _) rfl rfl rfl trivial rfl rfl ?_
  repeat' (first | refine coD_tup ?_ | refine coD_agg ?_ | refine coD_i ?_ | refine CoDL.cons ?_ ?_ | exact CoDL.nil | exact coI_nil | refine coI_sl ?_ | refine CoLL.cons ?_ ?_ | exact CoLL.nil | refine CoL.cons ?_ ?_ | exact CoL.nil | exact CoI.refl _ | exact CoL.refl _ | exact CoLL.refl _ | exact CoDL.refl _ | exact CoD.refl _)
theorem plus_ok (op n : Int) : exOk (plusE op n) := exOk_two (exOk_leaf _ _ _) (exOk_leaf _ _ _)
theorem cnt19_ok {x : Ex} (hx : exOk x) : extOk (counter19 x) := by
  refine ⟨by simp [counter19, max63], by simp [counter19, max63], by simp [counter19, max63], fun v hv => ?_, by simp [counter19, max63], fun x hx => ?_⟩
  · simp only [counter19, List.mem_singleton] at hv
    subst hv
    show (1 : Nat) ≤ max63
    decide
  · simp only [counter19, List.mem_cons, List.mem_nil_iff, or_false] at hx
    rcases hx with rfl | rfl
    · refine ⟨by assumption, by simp [max63], fun u hu => ?_⟩
      simp only [List.mem_singleton] at hu
      subst hu
      exact plus_ok _ _
    · refine ⟨plus_ok _ _, by simp [max63], fun u hu => ?_⟩
      simp only [List.mem_singleton] at hu
      subst hu
      exact exOk_leaf _ _ _
def knU : Unf Sta := ⟨[⟨0, [0]⟩, ⟨0, [1]⟩, ⟨0, [2]⟩], [], [(0, 0, 1), (1, 0, 2), (2, 1, 0)]⟩
theorem unf_known : unfoldR (counter19 (plusE 8 2)) = .ok knU := by kernel_rfl
theorem unf_known2 : unfoldR (counter19 trueE) = .error 17 := by kernel_rfl
theorem where_known : whereR (counter19 (plusE 8 2)) knU.sts (plusE 6 2) = ([2], 0) := by kernel_rfl
theorem known48 {g : Nat} (hg : IsTab g) {ty : TypeId} {fr : Nat × Nat} (O : List Heap) : ASpecT g (ptab ty fr) Tryd.prog 48 [] O (bb true) [] O := by
  have hp := fun op n O => plus103 O op n
  have hc := fun x O => counter102 O x
  have hu := fun O => Unfold50 hg (ty := ty) (fr := fr) O (counter19 (plusE 8 2)) (cnt19_ok (plus_ok _ _))
  simp only [unf_known] at hu
  have hu2 := fun O => Unfold50 hg (ty := ty) (fr := fr) O (counter19 trueE) (cnt19_ok (exOk_two (exOk_leaf _ _ _) (exOk_leaf _ _ _)))
  simp only [unf_known2] at hu2
  have hw := fun O => where52 O (counter19 (plusE 8 2)) knU.sts (plusE 6 2) (cnt19_ok (plus_ok _ _)) (plus_ok _ _) (by decide) (by decide)
  simp only [where_known] at hw
  have ht := fun O => true42 O
  have hs := fun O => sameInts36 O [2] [2] (by decide)
  refine aspecT_stop [] Tk Tryd.func48 rfl Tryd.call48 Tryd.ntmps48 (Nat.le_of_ble_eq_true rfl) fun E hE => ?_
  refine g_run Tk Tryd.func48 ?_
  first | refine g_call Tk Tryd.func48 (hp 8 2 _) rfl rfl rfl rfl rfl ?_ | refine s_callq Tk (fun _ => hp 8 2 _) rfl rfl rfl ?_
  first | refine g_call Tk Tryd.func48 (hc (plusE 8 2) _) rfl rfl rfl rfl rfl ?_ | refine s_callq Tk (fun _ => hc (plusE 8 2) _) rfl rfl rfl ?_
  refine g_callT Tk Tryd.func48 hE (hu _) rfl rfl rfl rfl rfl rfl ?_
  first | refine g_call Tk Tryd.func48 (ht _) rfl rfl rfl rfl rfl ?_ | refine s_callq Tk (fun _ => ht _) rfl rfl rfl ?_
  first | refine g_call Tk Tryd.func48 (hc trueE _) rfl rfl rfl rfl rfl ?_ | refine s_callq Tk (fun _ => hc trueE _) rfl rfl rfl ?_
  refine g_callT Tk Tryd.func48 hE (hu2 _) rfl rfl rfl rfl rfl rfl ?_
  first | refine g_call Tk Tryd.func48 (hp 8 2 _) rfl rfl rfl rfl rfl ?_ | refine s_callq Tk (fun _ => hp 8 2 _) rfl rfl rfl ?_
  first | refine g_call Tk Tryd.func48 (hc (plusE 8 2) _) rfl rfl rfl rfl rfl ?_ | refine s_callq Tk (fun _ => hc (plusE 8 2) _) rfl rfl rfl ?_
  first | refine g_call Tk Tryd.func48 (hp 6 2 _) rfl rfl rfl rfl rfl ?_ | refine s_callq Tk (fun _ => hp 6 2 _) rfl rfl rfl ?_
  first | refine g_call Tk Tryd.func48 (hw _) rfl rfl rfl rfl rfl ?_ | refine s_callq Tk (fun _ => hw _) rfl rfl rfl ?_
  repeat (first | refine g_cnd Tk Tryd.func48 rfl (fun _ => ?_) (fun h => absurd h (by decide)) | refine g_know Tk Tryd.func48 rfl (fun _ => ?_) (fun h => absurd h (by decide)) | refine s_know Tk (fun _ => ?_) (fun h => absurd h (by decide)) | refine g_cnd Tk Tryd.func48 rfl (fun h => absurd h (by decide)) (fun _ => ?_) | refine g_know Tk Tryd.func48 rfl (fun h => absurd h (by decide)) (fun _ => ?_) | refine s_know Tk (fun h => absurd h (by decide)) (fun _ => ?_) | refine g_cnd Tk Tryd.func48 rfl (fun _ => ?_) (fun h => absurd (show true = false from h) (by decide)) | refine g_know Tk Tryd.func48 rfl (fun _ => ?_) (fun h => absurd (show true = false from h) (by decide)) | refine s_know Tk (fun _ => ?_) (fun h => absurd (show true = false from h) (by decide)) | refine g_cnd Tk Tryd.func48 rfl (fun h => absurd (show false = true from h) (by decide)) (fun _ => ?_) | refine g_know Tk Tryd.func48 rfl (fun h => absurd (show false = true from h) (by decide)) (fun _ => ?_) | refine s_know Tk (fun h => absurd (show false = true from h) (by decide)) (fun _ => ?_))
  first | refine g_need Tk Tryd.func48 (by exact ⟨by decide, by decide⟩) ?_ | refine s_need Tk (by exact ⟨by decide, by decide⟩) ?_
  first | refine g_elem Tk Tryd.func48 (rfl) ?_ | refine s_elem Tk (rfl) ?_
  repeat (first | refine g_cnd Tk Tryd.func48 rfl (fun _ => ?_) (fun h => absurd h (by decide)) | refine g_know Tk Tryd.func48 rfl (fun _ => ?_) (fun h => absurd h (by decide)) | refine s_know Tk (fun _ => ?_) (fun h => absurd h (by decide)) | refine g_cnd Tk Tryd.func48 rfl (fun h => absurd h (by decide)) (fun _ => ?_) | refine g_know Tk Tryd.func48 rfl (fun h => absurd h (by decide)) (fun _ => ?_) | refine s_know Tk (fun h => absurd h (by decide)) (fun _ => ?_) | refine g_cnd Tk Tryd.func48 rfl (fun _ => ?_) (fun h => absurd (show true = false from h) (by decide)) | refine g_know Tk Tryd.func48 rfl (fun _ => ?_) (fun h => absurd (show true = false from h) (by decide)) | refine s_know Tk (fun _ => ?_) (fun h => absurd (show true = false from h) (by decide)) | refine g_cnd Tk Tryd.func48 rfl (fun h => absurd (show false = true from h) (by decide)) (fun _ => ?_) | refine g_know Tk Tryd.func48 rfl (fun h => absurd (show false = true from h) (by decide)) (fun _ => ?_) | refine s_know Tk (fun h => absurd (show false = true from h) (by decide)) (fun _ => ?_))
  first | refine g_call Tk Tryd.func48 (hs _) rfl rfl rfl rfl rfl ?_ | refine s_callq Tk (fun _ => hs _) rfl rfl rfl ?_
  refine g_ret Tk (r := bb true) rfl rfl rfl trivial rfl rfl ?_
  rfl
end Go.AI


/- FlattenUnfolds. -/
namespace Go.AI
open Go.Proofs
set_option maxRecDepth 20000
/-- The automaton of an unfolding. -/
def autU (alpha : List Int) (U : Unf Sta) : Aut := ⟨alpha, U.sts.length, U.mkl, U.eds⟩
end Go.AI


/- automaton.Run. -/
namespace Go.AI
open Go.Proofs
set_option maxRecDepth 20000
structure autOk (a : Aut) : Prop where
  ed : a.edges.length ≤ 1000000
  al : a.alpha.length ≤ 1000000
  mkd : a.marked.length ≤ 1000000
  chk : chkA a = 0
theorem chk_parts {a : Aut} (h : chkA a = 0) : checkSet 32 a.alpha none = 0 ∧ (0 ≤ a.states ∧ a.states ≤ 4096) ∧ checkSet a.states a.marked none = 0 ∧ chkEds a.alpha a.states none a.edges = 0 := by
  unfold chkA at h
  by_cases h1 : checkSet 32 a.alpha none ≠ 0
  · rw [if_pos h1] at h; exact absurd h h1
  rw [if_neg h1] at h
  by_cases h2 : a.states < 0
  · rw [if_pos h2] at h; cases h
  rw [if_neg h2] at h
  by_cases h3 : a.states > 4096
  · rw [if_pos h3] at h; cases h
  rw [if_neg h3] at h
  by_cases h4 : checkSet a.states a.marked none ≠ 0
  · rw [if_pos h4] at h; exact absurd h h4
  rw [if_neg h4] at h
  exact ⟨by simpa using h1, by omega, by simpa using h4, h⟩
end Go.AI


/- The specification of automata (overseerref03): List, has, Step, index, Empty, Check. -/
namespace Go.AI
open Go.Proofs
set_option maxRecDepth 20000
theorem has118 (O : List Heap) (l : List Int) (x : Int) (hl : l.length ≤ max63) : ASpec Tryd.prog 118 [ints l, ii x] O (bb (decide (x ∈ l))) [] O := by
  have hR : decide (x ∈ l) = decide (x ∈ l.drop 0) := rfl
  generalize decide (x ∈ l) = R at *
  refine aspec_intro Tk Tryd.func118 rfl Tryd.call118 Tryd.ntmps118 (Nat.le_of_ble_eq_true rfl) fun E => ?_
  refine g_run Tk Tryd.func118 ?_
  refine g_loop ?_
  refine rch_loop2 (fun i : Nat => [(0, ints l), (1, ii x), (5, ii i)]) (fun _ => []) (fun _ => O) 18
    (fun i => i ≤ l.length ∧ R = decide (x ∈ l.drop i)) (fun i => l.length - i) 0 ⟨Nat.zero_le _, hR⟩ ⟨rfl, rfl, rfl, trivial⟩ rfl trivial rfl rfl ?_
  rintro i ⟨hi, hno⟩ ih
  clear hR
  refine g_run Tk Tryd.func118 ?_
  first | refine g_cnd Tk Tryd.func118 rfl (fun g1 => ?_) (fun g1 => ?_) | refine g_know Tk Tryd.func118 rfl (fun g1 => ?_) (fun g1 => ?_) | refine s_know Tk (fun g1 => ?_) (fun g1 => ?_)
  · have h1 : i < l.length := by simpa using g1
    have gl : (l.map fun x => [vi x])[(i : Int).toNat]? = some [vi l[i]] := get_mapZ (f := fun x => [vi x]) h1
    have dl : l.drop i = l[i] :: l.drop (i + 1) := List.drop_eq_getElem_cons h1
    simp only [dl, List.mem_cons] at hno
    clear dl
    generalize l[i] = y at *
    first | refine g_need Tk Tryd.func118 (by exact ⟨by omega, by show (i : Int) < (l.length : Int); omega⟩) ?_ | refine s_need Tk (by exact ⟨by omega, by show (i : Int) < (l.length : Int); omega⟩) ?_
    first | refine g_elem Tk Tryd.func118 (gl) ?_ | refine s_elem Tk (gl) ?_
    first | refine g_cnd Tk Tryd.func118 rfl (fun g2 => ?_) (fun g2 => ?_) | refine g_know Tk Tryd.func118 rfl (fun g2 => ?_) (fun g2 => ?_) | refine s_know Tk (fun g2 => ?_) (fun g2 => ?_)
    · have g2 : y = x := beqT g2
      subst g2
      refine g_ret Tk (r := bb true) rfl rfl rfl trivial rfl rfl ?_
      rw [hno]
      simp
    · have g2 : y ≠ x := beqF g2
      have hno : R = decide (x ∈ l.drop (i + 1)) := by
        rw [hno]
        exact decide_eq_decide.2 ⟨fun h => h.resolve_left (Ne.symm g2), .inr⟩
      refine g_loop ?_
      exact ih (i + 1) _ _ ⟨h1, hno⟩ (by omega) ⟨rfl, rfl, congrArg ii (wsucc h1 hl), trivial⟩ rfl trivial rfl rfl
  · have h1 : l.length ≤ i := by simpa using g1
    simp only [List.drop_eq_nil_of_le h1] at hno
    refine g_ret Tk (r := bb false) rfl rfl rfl trivial rfl rfl ?_
    rw [hno]
    simp
theorem index122 (O : List Heap) (l : List Int) (x : Int) (hl : l.length ≤ max63) : ASpec Tryd.prog 122 [ints l, ii x] O (ii (idxI x l 0)) [] O := by
  generalize hR : idxI x l 0 = R
  refine aspec_intro Tk Tryd.func122 rfl Tryd.call122 Tryd.ntmps122 (Nat.le_of_ble_eq_true rfl) fun E => ?_
  refine g_run Tk Tryd.func122 ?_
  refine g_loop ?_
  refine rch_loop2 (fun i : Nat => [(0, ints l), (1, ii x), (5, ii i)]) (fun _ => []) (fun _ => O) 19
    (fun i => i ≤ l.length ∧ idxI x (l.drop i) i = R) (fun i => l.length - i) 0 ⟨Nat.zero_le _, hR⟩ ⟨rfl, rfl, rfl, trivial⟩ rfl trivial rfl rfl ?_
  rintro i ⟨hi, hno⟩ ih
  clear hR
  refine g_run Tk Tryd.func122 ?_
  first | refine g_cnd Tk Tryd.func122 rfl (fun g1 => ?_) (fun g1 => ?_) | refine g_know Tk Tryd.func122 rfl (fun g1 => ?_) (fun g1 => ?_) | refine s_know Tk (fun g1 => ?_) (fun g1 => ?_)
  · have h1 : i < l.length := by simpa using g1
    have gl : (l.map fun x => [vi x])[(i : Int).toNat]? = some [vi l[i]] := get_mapZ (f := fun x => [vi x]) h1
    have dl : l.drop i = l[i] :: l.drop (i + 1) := List.drop_eq_getElem_cons h1
    rw [dl] at hno
    simp only [idxI] at hno
    clear dl
    generalize l[i] = y at *
    first | refine g_need Tk Tryd.func122 (by exact ⟨by omega, by show (i : Int) < (l.length : Int); omega⟩) ?_ | refine s_need Tk (by exact ⟨by omega, by show (i : Int) < (l.length : Int); omega⟩) ?_
    first | refine g_elem Tk Tryd.func122 (gl) ?_ | refine s_elem Tk (gl) ?_
    first | refine g_cnd Tk Tryd.func122 rfl (fun g2 => ?_) (fun g2 => ?_) | refine g_know Tk Tryd.func122 rfl (fun g2 => ?_) (fun g2 => ?_) | refine s_know Tk (fun g2 => ?_) (fun g2 => ?_)
    · have g2 : y = x := beqT g2
      rw [if_pos g2.symm] at hno
      subst hno
      refine g_ret Tk (r := ii (i : Int)) rfl rfl rfl trivial rfl rfl ?_
      rfl
    · have g2 : y ≠ x := beqF g2
      rw [if_neg (Ne.symm g2)] at hno
      refine g_loop ?_
      exact ih (i + 1) _ _ ⟨h1, hno⟩ (by omega) ⟨rfl, rfl, congrArg ii (wsucc h1 hl), trivial⟩ rfl trivial rfl rfl
  · have h1 : l.length ≤ i := by simpa using g1
    rw [List.drop_eq_nil_of_le h1] at hno
    simp only [idxI] at hno
    subst hno
    refine g_ret Tk (r := ii (-1)) rfl rfl rfl trivial rfl rfl ?_
    rfl
/-- The state to which an event leads by the specification, or -1. -/
def stp3 (es : List Edg) (s ev : Int) : Int := match es with
  | [] => -1
  | x :: r => if x.1 = s ∧ x.2.1 = ev then x.2.2 else stp3 r s ev
theorem step121 (O : List Heap) (a : Aut) (s ev : Int) (hl : a.edges.length ≤ max63) : ASpec Tryd.prog 121 [autD a, ii s, ii ev] O (ii (stp3 a.edges s ev)) [] O := by
  obtain ⟨al, st, mk, es⟩ := a
  simp only at hl ⊢
  generalize hR : stp3 es s ev = R
  refine aspec_intro Tk Tryd.func121 rfl Tryd.call121 Tryd.ntmps121 (Nat.le_of_ble_eq_true rfl) fun E => ?_
  refine g_run Tk Tryd.func121 ?_
  refine g_loop ?_
  refine rch_loop2 (fun i : Nat => [(1, ii s), (2, ii ev), (3, .own 0 3 0 0), (7, ii i)]) (fun _ => [(3, .box [ints al, ii st, ints mk, edgs es])]) (fun _ => O) 39
    (fun i => i ≤ es.length ∧ stp3 (es.drop i) s ev = R) (fun i => es.length - i) 0 ⟨Nat.zero_le _, hR⟩ ⟨rfl, rfl, rfl, rfl, trivial⟩ rfl ⟨rfl, trivial⟩ rfl rfl ?_
  rintro i ⟨hi, hno⟩ ih
  clear hR
  refine g_run Tk Tryd.func121 ?_
  first | refine g_cnd Tk Tryd.func121 rfl (fun g1 => ?_) (fun g1 => ?_) | refine g_know Tk Tryd.func121 rfl (fun g1 => ?_) (fun g1 => ?_) | refine s_know Tk (fun g1 => ?_) (fun g1 => ?_)
  · have h1 : i < es.length := by simpa using g1
    have ge : (es.map edgI)[(i : Int).toNat]? = some (edgI es[i]) := get_mapZ h1
    have dl : es.drop i = es[i] :: es.drop (i + 1) := List.drop_eq_getElem_cons h1
    rw [dl] at hno
    simp only [stp3] at hno
    clear dl
    generalize es[i] = y at *
    obtain ⟨yf, ye, yt⟩ := y
    simp only at hno
    have n1 : 0 ≤ (i : Int) ∧ (i : Int) < (es.length : Int) := by omega
    first | refine g_need Tk Tryd.func121 (by exact n1) ?_ | refine s_need Tk (by exact n1) ?_
    first | refine g_elem Tk Tryd.func121 (ge) ?_ | refine s_elem Tk (ge) ?_
    first | refine g_cnd Tk Tryd.func121 rfl (fun g2 => ?_) (fun g2 => ?_) | refine g_know Tk Tryd.func121 rfl (fun g2 => ?_) (fun g2 => ?_) | refine s_know Tk (fun g2 => ?_) (fun g2 => ?_)
    · have g2 : yf = s := beqT g2
      first | refine g_need Tk Tryd.func121 (by exact n1) ?_ | refine s_need Tk (by exact n1) ?_
      first | refine g_elem Tk Tryd.func121 (ge) ?_ | refine s_elem Tk (ge) ?_
      first | refine g_cnd Tk Tryd.func121 rfl (fun g3 => ?_) (fun g3 => ?_) | refine g_know Tk Tryd.func121 rfl (fun g3 => ?_) (fun g3 => ?_) | refine s_know Tk (fun g3 => ?_) (fun g3 => ?_)
      · have g3 : ye = ev := beqT g3
        rw [if_pos ⟨g2, g3⟩] at hno
        subst hno
        first | refine g_need Tk Tryd.func121 (by exact n1) ?_ | refine s_need Tk (by exact n1) ?_
        first | refine g_elem Tk Tryd.func121 (ge) ?_ | refine s_elem Tk (ge) ?_
        refine g_ret Tk (r := ii yt) rfl rfl rfl trivial rfl rfl ?_
        rfl
      · have g3 : ye ≠ ev := beqF g3
        rw [if_neg (fun h => g3 h.2)] at hno
        refine g_loop ?_
        exact ih (i + 1) _ _ ⟨h1, hno⟩ (by omega) ⟨rfl, rfl, rfl, congrArg ii (wsucc h1 hl), trivial⟩ rfl ⟨rfl, trivial⟩ rfl rfl
    · have g2 : yf ≠ s := beqF g2
      rw [if_neg (fun h => g2 h.1)] at hno
      repeat (first | refine g_cnd Tk Tryd.func121 rfl (fun _ => ?_) (fun h => absurd h (by decide)) | refine g_know Tk Tryd.func121 rfl (fun _ => ?_) (fun h => absurd h (by decide)) | refine s_know Tk (fun _ => ?_) (fun h => absurd h (by decide)) | refine g_cnd Tk Tryd.func121 rfl (fun h => absurd h (by decide)) (fun _ => ?_) | refine g_know Tk Tryd.func121 rfl (fun h => absurd h (by decide)) (fun _ => ?_) | refine s_know Tk (fun h => absurd h (by decide)) (fun _ => ?_) | refine g_cnd Tk Tryd.func121 rfl (fun _ => ?_) (fun h => absurd (show true = false from h) (by decide)) | refine g_know Tk Tryd.func121 rfl (fun _ => ?_) (fun h => absurd (show true = false from h) (by decide)) | refine s_know Tk (fun _ => ?_) (fun h => absurd (show true = false from h) (by decide)) | refine g_cnd Tk Tryd.func121 rfl (fun h => absurd (show false = true from h) (by decide)) (fun _ => ?_) | refine g_know Tk Tryd.func121 rfl (fun h => absurd (show false = true from h) (by decide)) (fun _ => ?_) | refine s_know Tk (fun h => absurd (show false = true from h) (by decide)) (fun _ => ?_))
      refine g_loop ?_
      exact ih (i + 1) _ _ ⟨h1, hno⟩ (by omega) ⟨rfl, rfl, rfl, congrArg ii (wsucc h1 hl), trivial⟩ rfl ⟨rfl, trivial⟩ rfl rfl
  · have h1 : es.length ≤ i := by simpa using g1
    rw [List.drop_eq_nil_of_le h1] at hno
    simp only [stp3] at hno
    subst hno
    refine g_ret Tk (r := ii (-1)) rfl rfl rfl trivial rfl rfl ?_
    rfl
theorem list117 (O : List Heap) (l : List Int) (n : Int) (hl : l.length ≤ max63) : ASpec Tryd.prog 117 [ints l, ii n] O (ii (checkSet n l none)) [] O := by
  generalize hR : checkSet n l none = R
  refine aspec_intro Tk Tryd.func117 rfl Tryd.call117 Tryd.ntmps117 (Nat.le_of_ble_eq_true rfl) fun E => ?_
  refine g_run Tk Tryd.func117 ?_
  refine g_loop ?_
  refine rch_loop2 (fun x : Nat × Option Int => [(0, ints l), (1, ii n), (5, ii x.1)]) (fun _ => []) (fun _ => O) 39
    (fun x => x.1 ≤ l.length ∧ checkSet n (l.drop x.1) x.2 = R ∧ ((x.1 = 0 ∧ x.2 = none) ∨ ∃ h : 0 < x.1 ∧ x.1 - 1 < l.length, x.2 = some (l[x.1 - 1]'h.2))) (fun x => l.length - x.1) (0, none) ⟨Nat.zero_le _, hR, .inl ⟨rfl, rfl⟩⟩ ⟨rfl, rfl, rfl, trivial⟩ rfl trivial rfl rfl ?_
  rintro ⟨i, prev⟩ ⟨hi, hno, hp⟩ ih
  simp only at hi hno hp
  clear hR
  refine g_run Tk Tryd.func117 ?_
  first | refine g_cnd Tk Tryd.func117 rfl (fun g1 => ?_) (fun g1 => ?_) | refine g_know Tk Tryd.func117 rfl (fun g1 => ?_) (fun g1 => ?_) | refine s_know Tk (fun g1 => ?_) (fun g1 => ?_)
  · have h1 : i < l.length := by simpa using g1
    have gl : (l.map fun x => [vi x])[(i : Int).toNat]? = some [vi l[i]] := get_mapZ (f := fun x => [vi x]) h1
    have dl : l.drop i = l[i] :: l.drop (i + 1) := List.drop_eq_getElem_cons h1
    rw [dl] at hno
    simp only [checkSet] at hno
    clear dl
    have hi1 : ii (IntKind.i64.wrap ((i : Int) + 1)) = ii ((i + 1 : Nat) : Int) := congrArg ii (wsucc h1 hl)
    have hnext : (i + 1 = 0 ∧ some l[i] = none) ∨ ∃ h : 0 < i + 1 ∧ i + 1 - 1 < l.length, some l[i] = some (l[i + 1 - 1]'h.2) := .inr ⟨⟨by omega, by omega⟩, rfl⟩
    generalize hx : l[i] = x at *
    have n1 : 0 ≤ (i : Int) ∧ (i : Int) < (l.length : Int) := by omega
    first | refine g_need Tk Tryd.func117 (by exact n1) ?_ | refine s_need Tk (by exact n1) ?_
    first | refine g_elem Tk Tryd.func117 (gl) ?_ | refine s_elem Tk (gl) ?_
    first | refine g_cnd Tk Tryd.func117 rfl (fun c1 => ?_) (fun c1 => ?_) | refine g_know Tk Tryd.func117 rfl (fun c1 => ?_) (fun c1 => ?_) | refine s_know Tk (fun c1 => ?_) (fun c1 => ?_)
    · have c1 : x < 0 := of_decide_eq_true c1
      rw [if_pos (.inl c1)] at hno
      subst hno
      repeat (first | refine g_cnd Tk Tryd.func117 rfl (fun _ => ?_) (fun h => absurd h (by decide)) | refine g_know Tk Tryd.func117 rfl (fun _ => ?_) (fun h => absurd h (by decide)) | refine s_know Tk (fun _ => ?_) (fun h => absurd h (by decide)) | refine g_cnd Tk Tryd.func117 rfl (fun h => absurd h (by decide)) (fun _ => ?_) | refine g_know Tk Tryd.func117 rfl (fun h => absurd h (by decide)) (fun _ => ?_) | refine s_know Tk (fun h => absurd h (by decide)) (fun _ => ?_) | refine g_cnd Tk Tryd.func117 rfl (fun _ => ?_) (fun h => absurd (show true = false from h) (by decide)) | refine g_know Tk Tryd.func117 rfl (fun _ => ?_) (fun h => absurd (show true = false from h) (by decide)) | refine s_know Tk (fun _ => ?_) (fun h => absurd (show true = false from h) (by decide)) | refine g_cnd Tk Tryd.func117 rfl (fun h => absurd (show false = true from h) (by decide)) (fun _ => ?_) | refine g_know Tk Tryd.func117 rfl (fun h => absurd (show false = true from h) (by decide)) (fun _ => ?_) | refine s_know Tk (fun h => absurd (show false = true from h) (by decide)) (fun _ => ?_))
      refine g_ret Tk (r := ii 2) rfl rfl rfl trivial rfl rfl ?_
      rfl
    have c1 : ¬ x < 0 := of_decide_eq_false c1
    first | refine g_need Tk Tryd.func117 (by exact n1) ?_ | refine s_need Tk (by exact n1) ?_
    first | refine g_elem Tk Tryd.func117 (gl) ?_ | refine s_elem Tk (gl) ?_
    first | refine g_cnd Tk Tryd.func117 rfl (fun c2 => ?_) (fun c2 => ?_) | refine g_know Tk Tryd.func117 rfl (fun c2 => ?_) (fun c2 => ?_) | refine s_know Tk (fun c2 => ?_) (fun c2 => ?_)
    · have c2 : x ≥ n := of_decide_eq_true c2
      rw [if_pos (.inr c2)] at hno
      subst hno
      refine g_ret Tk (r := ii 2) rfl rfl rfl trivial rfl rfl ?_
      rfl
    have c2 : ¬ x ≥ n := of_decide_eq_false c2
    rw [if_neg (by omega)] at hno
    rcases hp with ⟨h0, hpr⟩ | ⟨hp1, hpr⟩
    · rw [hpr] at hno
      rw [if_neg (by simp)] at hno
      refine g_drawn Tk Tryd.func117 mixedT rfl ?_
      first | refine g_cnd Tk Tryd.func117 rfl (fun c3 => ?_) (fun c3 => ?_) | refine g_know Tk Tryd.func117 rfl (fun c3 => ?_) (fun c3 => ?_) | refine s_know Tk (fun c3 => ?_) (fun c3 => ?_)
      · have c3 : (i : Int) > 0 := of_decide_eq_true c3
        omega
      refine e_done Tk Tryd.func117 (by kernel_rfl) ?_
      repeat (first | refine g_cnd Tk Tryd.func117 rfl (fun _ => ?_) (fun h => absurd h (by decide)) | refine g_know Tk Tryd.func117 rfl (fun _ => ?_) (fun h => absurd h (by decide)) | refine s_know Tk (fun _ => ?_) (fun h => absurd h (by decide)) | refine g_cnd Tk Tryd.func117 rfl (fun h => absurd h (by decide)) (fun _ => ?_) | refine g_know Tk Tryd.func117 rfl (fun h => absurd h (by decide)) (fun _ => ?_) | refine s_know Tk (fun h => absurd h (by decide)) (fun _ => ?_) | refine g_cnd Tk Tryd.func117 rfl (fun _ => ?_) (fun h => absurd (show true = false from h) (by decide)) | refine g_know Tk Tryd.func117 rfl (fun _ => ?_) (fun h => absurd (show true = false from h) (by decide)) | refine s_know Tk (fun _ => ?_) (fun h => absurd (show true = false from h) (by decide)) | refine g_cnd Tk Tryd.func117 rfl (fun h => absurd (show false = true from h) (by decide)) (fun _ => ?_) | refine g_know Tk Tryd.func117 rfl (fun h => absurd (show false = true from h) (by decide)) (fun _ => ?_) | refine s_know Tk (fun h => absurd (show false = true from h) (by decide)) (fun _ => ?_))
      refine g_loop ?_
      exact ih (i + 1, some x) _ _ ⟨h1, hno, hnext⟩ (by simp only; omega) ⟨rfl, rfl, hi1, trivial⟩ rfl trivial rfl rfl
    · have gp : (l.map fun x => [vi x])[(IntKind.i64.wrap ((i : Int) - 1)).toNat]? = some [vi (l[i - 1]'hp1.2)] := by
        rw [w64 (by omega) (by simp only [max63] at hl; omega), show ((i : Int) - 1).toNat = i - 1 by omega]
        rw [List.getElem?_map, List.getElem?_eq_getElem hp1.2]
        rfl
      have hwp : IntKind.i64.wrap ((i : Int) - 1) = (i : Int) - 1 := w64 (by omega) (by simp only [max63] at hl; omega)
      rw [hpr] at hno
      generalize l[i - 1]'hp1.2 = y at *
      refine g_drawn Tk Tryd.func117 mixedT rfl ?_
      first | refine g_cnd Tk Tryd.func117 rfl (fun c3 => ?_) (fun c3 => ?_) | refine g_know Tk Tryd.func117 rfl (fun c3 => ?_) (fun c3 => ?_) | refine s_know Tk (fun c3 => ?_) (fun c3 => ?_)
      rotate_left
      · have c3 : ¬ (i : Int) > 0 := of_decide_eq_false c3
        omega
      first | refine g_need Tk Tryd.func117 (by exact n1) ?_ | refine s_need Tk (by exact n1) ?_
      first | refine g_elem Tk Tryd.func117 (gl) ?_ | refine s_elem Tk (gl) ?_
      first | refine g_need Tk Tryd.func117 (by rw [hwp]; exact ⟨by omega, by show (i : Int) - 1 < (l.length : Int); omega⟩) ?_ | refine s_need Tk (by rw [hwp]; exact ⟨by omega, by show (i : Int) - 1 < (l.length : Int); omega⟩) ?_
      first | refine g_elem Tk Tryd.func117 (gp) ?_ | refine s_elem Tk (gp) ?_
      refine e_done Tk Tryd.func117 (by kernel_rfl) ?_
      first | refine g_cnd Tk Tryd.func117 rfl (fun c4 => ?_) (fun c4 => ?_) | refine g_know Tk Tryd.func117 rfl (fun c4 => ?_) (fun c4 => ?_) | refine s_know Tk (fun c4 => ?_) (fun c4 => ?_)
      · have c4 : x ≤ y := of_decide_eq_true c4
        rw [if_pos (by simpa using c4)] at hno
        subst hno
        refine g_ret Tk (r := ii 5) rfl rfl rfl trivial rfl rfl ?_
        rfl
      have c4 : ¬ x ≤ y := of_decide_eq_false c4
      rw [if_neg (by simpa using c4)] at hno
      refine g_loop ?_
      exact ih (i + 1, some x) _ _ ⟨h1, hno, hnext⟩ (by simp only; omega) ⟨rfl, rfl, hi1, trivial⟩ rfl trivial rfl rfl
  · have h1 : l.length ≤ i := by simpa using g1
    rw [List.drop_eq_nil_of_le h1] at hno
    simp only [checkSet] at hno
    subst hno
    refine g_ret Tk (r := ii 0) rfl rfl rfl trivial rfl rfl ?_
    rfl
theorem empty120 (O : List Heap) (l : List Int) (hl : l.length ≤ 1000000) : ASpec Tryd.prog 120 [ints l] O (.agg [ints l, ii 0, .i (.v (.slice none 0 0)), .i (.v (.slice none 0 0))]) [] O := by
  refine aspec_intro Tk Tryd.func120 rfl Tryd.call120 Tryd.ntmps120 (Nat.le_of_ble_eq_true rfl) fun E => ?_
  refine g_run Tk Tryd.func120 ?_
  first | refine g_need Tk Tryd.func120 (by exact ⟨by show (0 + l.length) * 8 ≤ 140737488355328; omega, by show 0 + l.length ≤ 9223372036854775807; omega⟩) ?_ | refine s_need Tk (by exact ⟨by show (0 + l.length) * 8 ≤ 140737488355328; omega, by show 0 + l.length ≤ 9223372036854775807; omega⟩) ?_
  refine g_rwk (wk_freeze 5 rfl rfl) ?_
  refine g_rwk (wk_imm rfl) ?_
  refine g_ret_co Tk (r := _) rfl rfl rfl trivial rfl rfl ?_
  show CoD (.agg [.i (.sl 1 (0 + l.length) ([] ++ l.map fun x => [vi x])), ii 0, .i (.v (.slice none 0 0)), .i (.v (.slice none 0 0))]) _
  rw [Nat.zero_add, List.nil_append]
  exact CoD.refl _
set_option maxHeartbeats 4000000 in
theorem check55 (O : List Heap) (a : Aut) (hl : a.edges.length ≤ max63) (hal : a.alpha.length ≤ max63) (hmk : a.marked.length ≤ max63) : ASpec Tryd.prog 55 [autD a] O (ii (chkA a)) [] O := by
  have h1 := fun O => list117 O a.alpha 32 hal
  have h2 := fun O => list117 O a.marked a.states hmk
  have hcn := fun O x => has118 O a.alpha x hal
  generalize hR : chkA a = R
  unfold chkA at hR
  generalize checkSet 32 a.alpha none = e1 at *
  generalize checkSet a.states a.marked none = e2 at *
  obtain ⟨al, n, mk, es⟩ := a
  simp only at hR h1 h2 hcn hl
  refine aspec_intro Tk Tryd.func55 rfl Tryd.call55 Tryd.ntmps55 (Nat.le_of_ble_eq_true rfl) fun E => ?_
  refine g_run Tk Tryd.func55 ?_
  first | refine g_call Tk Tryd.func55 (h1 _) rfl rfl rfl rfl rfl ?_ | refine s_callq Tk (fun _ => h1 _) rfl rfl rfl ?_
  first | refine g_cnd Tk Tryd.func55 rfl (fun c1 => ?_) (fun c1 => ?_) | refine g_know Tk Tryd.func55 rfl (fun c1 => ?_) (fun c1 => ?_) | refine s_know Tk (fun c1 => ?_) (fun c1 => ?_)
  · have c1 : e1 ≠ 0 := bneT c1
    rw [if_pos c1] at hR
    subst hR
    refine g_ret Tk (r := ii e1) rfl rfl rfl trivial rfl rfl ?_
    rfl
  have c1 : e1 = 0 := bneF c1
  rw [if_neg (by simpa using c1)] at hR
  first | refine g_cnd Tk Tryd.func55 rfl (fun c2 => ?_) (fun c2 => ?_) | refine g_know Tk Tryd.func55 rfl (fun c2 => ?_) (fun c2 => ?_) | refine s_know Tk (fun c2 => ?_) (fun c2 => ?_)
  · have c2 : n < 0 := of_decide_eq_true c2
    rw [if_pos c2] at hR
    subst hR
    refine g_ret Tk (r := ii 2) rfl rfl rfl trivial rfl rfl ?_
    rfl
  have c2 : ¬ n < 0 := of_decide_eq_false c2
  rw [if_neg c2] at hR
  first | refine g_cnd Tk Tryd.func55 rfl (fun c3 => ?_) (fun c3 => ?_) | refine g_know Tk Tryd.func55 rfl (fun c3 => ?_) (fun c3 => ?_) | refine s_know Tk (fun c3 => ?_) (fun c3 => ?_)
  · have c3 : n > 4096 := of_decide_eq_true c3
    rw [if_pos c3] at hR
    subst hR
    refine g_ret Tk (r := ii 3) rfl rfl rfl trivial rfl rfl ?_
    rfl
  have c3 : ¬ n > 4096 := of_decide_eq_false c3
  rw [if_neg c3] at hR
  first | refine g_call Tk Tryd.func55 (h2 _) rfl rfl rfl rfl rfl ?_ | refine s_callq Tk (fun _ => h2 _) rfl rfl rfl ?_
  first | refine g_cnd Tk Tryd.func55 rfl (fun c4 => ?_) (fun c4 => ?_) | refine g_know Tk Tryd.func55 rfl (fun c4 => ?_) (fun c4 => ?_) | refine s_know Tk (fun c4 => ?_) (fun c4 => ?_)
  · have c4 : e2 ≠ 0 := bneT c4
    rw [if_pos c4] at hR
    subst hR
    refine g_ret Tk (r := ii e2) rfl rfl rfl trivial rfl rfl ?_
    rfl
  have c4 : e2 = 0 := bneF c4
  rw [if_neg (by simpa using c4)] at hR
  clear c1 c2 c3 c4 h1 h2
  refine g_loop ?_
  refine rch_loop2 (fun x : Nat × Option Edg => [(1, .own 0 1 0 0), (5, ii x.1)]) (fun _ => [(1, .box [ints al, ii n, ints mk, edgs es])]) (fun _ => O) 105
    (fun x => x.1 ≤ es.length ∧ chkEds al n x.2 (es.drop x.1) = R ∧ ((x.1 = 0 ∧ x.2 = none) ∨ ∃ h : 0 < x.1 ∧ x.1 - 1 < es.length, x.2 = some (es[x.1 - 1]'h.2))) (fun x => es.length - x.1) (0, none) ⟨Nat.zero_le _, hR, .inl ⟨rfl, rfl⟩⟩ ⟨rfl, rfl, trivial⟩ rfl ⟨rfl, trivial⟩ rfl rfl ?_
  rintro ⟨i, prev⟩ ⟨hi, hno, hp⟩ ih
  simp only at hi hno hp
  clear hR
  refine g_run Tk Tryd.func55 ?_
  first | refine g_cnd Tk Tryd.func55 rfl (fun g1 => ?_) (fun g1 => ?_) | refine g_know Tk Tryd.func55 rfl (fun g1 => ?_) (fun g1 => ?_) | refine s_know Tk (fun g1 => ?_) (fun g1 => ?_)
  · have h1 : i < es.length := by simpa using g1
    have ge : (es.map edgI)[(i : Int).toNat]? = some (edgI es[i]) := get_mapZ h1
    have dl : es.drop i = es[i] :: es.drop (i + 1) := List.drop_eq_getElem_cons h1
    rw [dl] at hno
    simp only [chkEds] at hno
    clear dl
    have hi1 : ii (IntKind.i64.wrap ((i : Int) + 1)) = ii ((i + 1 : Nat) : Int) := congrArg ii (wsucc h1 hl)
    have hnext : (i + 1 = 0 ∧ some es[i] = none) ∨ ∃ h : 0 < i + 1 ∧ i + 1 - 1 < es.length, some es[i] = some (es[i + 1 - 1]'h.2) := .inr ⟨⟨by omega, by omega⟩, rfl⟩
    generalize hx : es[i] = x at *
    obtain ⟨xf, xe, xt⟩ := x
    simp only at hno
    have n1 : 0 ≤ (i : Int) ∧ (i : Int) < (es.length : Int) := by omega
    first | refine g_need Tk Tryd.func55 (by exact n1) ?_ | refine s_need Tk (by exact n1) ?_
    first | refine g_elem Tk Tryd.func55 (ge) ?_ | refine s_elem Tk (ge) ?_
    first | refine g_cnd Tk Tryd.func55 rfl (fun c1 => ?_) (fun c1 => ?_) | refine g_know Tk Tryd.func55 rfl (fun c1 => ?_) (fun c1 => ?_) | refine s_know Tk (fun c1 => ?_) (fun c1 => ?_)
    · have c1 : xf < 0 := of_decide_eq_true c1
      rw [if_pos (.inl c1)] at hno
      subst hno
      repeat (first | refine g_cnd Tk Tryd.func55 rfl (fun _ => ?_) (fun h => absurd h (by decide)) | refine g_know Tk Tryd.func55 rfl (fun _ => ?_) (fun h => absurd h (by decide)) | refine s_know Tk (fun _ => ?_) (fun h => absurd h (by decide)) | refine g_cnd Tk Tryd.func55 rfl (fun h => absurd h (by decide)) (fun _ => ?_) | refine g_know Tk Tryd.func55 rfl (fun h => absurd h (by decide)) (fun _ => ?_) | refine s_know Tk (fun h => absurd h (by decide)) (fun _ => ?_) | refine g_cnd Tk Tryd.func55 rfl (fun _ => ?_) (fun h => absurd (show true = false from h) (by decide)) | refine g_know Tk Tryd.func55 rfl (fun _ => ?_) (fun h => absurd (show true = false from h) (by decide)) | refine s_know Tk (fun _ => ?_) (fun h => absurd (show true = false from h) (by decide)) | refine g_cnd Tk Tryd.func55 rfl (fun h => absurd (show false = true from h) (by decide)) (fun _ => ?_) | refine g_know Tk Tryd.func55 rfl (fun h => absurd (show false = true from h) (by decide)) (fun _ => ?_) | refine s_know Tk (fun h => absurd (show false = true from h) (by decide)) (fun _ => ?_))
      refine g_ret Tk (r := ii 2) rfl rfl rfl trivial rfl rfl ?_
      rfl
    have c1 : ¬ xf < 0 := of_decide_eq_false c1
    first | refine g_cnd Tk Tryd.func55 rfl (fun c2 => ?_) (fun c2 => ?_) | refine g_know Tk Tryd.func55 rfl (fun c2 => ?_) (fun c2 => ?_) | refine s_know Tk (fun c2 => ?_) (fun c2 => ?_)
    · have c2 : xf ≥ n := of_decide_eq_true c2
      rw [if_pos (.inr (.inl c2))] at hno
      subst hno
      repeat (first | refine g_cnd Tk Tryd.func55 rfl (fun _ => ?_) (fun h => absurd h (by decide)) | refine g_know Tk Tryd.func55 rfl (fun _ => ?_) (fun h => absurd h (by decide)) | refine s_know Tk (fun _ => ?_) (fun h => absurd h (by decide)) | refine g_cnd Tk Tryd.func55 rfl (fun h => absurd h (by decide)) (fun _ => ?_) | refine g_know Tk Tryd.func55 rfl (fun h => absurd h (by decide)) (fun _ => ?_) | refine s_know Tk (fun h => absurd h (by decide)) (fun _ => ?_) | refine g_cnd Tk Tryd.func55 rfl (fun _ => ?_) (fun h => absurd (show true = false from h) (by decide)) | refine g_know Tk Tryd.func55 rfl (fun _ => ?_) (fun h => absurd (show true = false from h) (by decide)) | refine s_know Tk (fun _ => ?_) (fun h => absurd (show true = false from h) (by decide)) | refine g_cnd Tk Tryd.func55 rfl (fun h => absurd (show false = true from h) (by decide)) (fun _ => ?_) | refine g_know Tk Tryd.func55 rfl (fun h => absurd (show false = true from h) (by decide)) (fun _ => ?_) | refine s_know Tk (fun h => absurd (show false = true from h) (by decide)) (fun _ => ?_))
      refine g_ret Tk (r := ii 2) rfl rfl rfl trivial rfl rfl ?_
      rfl
    have c2 : ¬ xf ≥ n := of_decide_eq_false c2
    first | refine g_cnd Tk Tryd.func55 rfl (fun c3 => ?_) (fun c3 => ?_) | refine g_know Tk Tryd.func55 rfl (fun c3 => ?_) (fun c3 => ?_) | refine s_know Tk (fun c3 => ?_) (fun c3 => ?_)
    · have c3 : xt < 0 := of_decide_eq_true c3
      rw [if_pos (.inr (.inr (.inl c3)))] at hno
      subst hno
      repeat (first | refine g_cnd Tk Tryd.func55 rfl (fun _ => ?_) (fun h => absurd h (by decide)) | refine g_know Tk Tryd.func55 rfl (fun _ => ?_) (fun h => absurd h (by decide)) | refine s_know Tk (fun _ => ?_) (fun h => absurd h (by decide)) | refine g_cnd Tk Tryd.func55 rfl (fun h => absurd h (by decide)) (fun _ => ?_) | refine g_know Tk Tryd.func55 rfl (fun h => absurd h (by decide)) (fun _ => ?_) | refine s_know Tk (fun h => absurd h (by decide)) (fun _ => ?_) | refine g_cnd Tk Tryd.func55 rfl (fun _ => ?_) (fun h => absurd (show true = false from h) (by decide)) | refine g_know Tk Tryd.func55 rfl (fun _ => ?_) (fun h => absurd (show true = false from h) (by decide)) | refine s_know Tk (fun _ => ?_) (fun h => absurd (show true = false from h) (by decide)) | refine g_cnd Tk Tryd.func55 rfl (fun h => absurd (show false = true from h) (by decide)) (fun _ => ?_) | refine g_know Tk Tryd.func55 rfl (fun h => absurd (show false = true from h) (by decide)) (fun _ => ?_) | refine s_know Tk (fun h => absurd (show false = true from h) (by decide)) (fun _ => ?_))
      refine g_ret Tk (r := ii 2) rfl rfl rfl trivial rfl rfl ?_
      rfl
    have c3 : ¬ xt < 0 := of_decide_eq_false c3
    first | refine g_cnd Tk Tryd.func55 rfl (fun c4 => ?_) (fun c4 => ?_) | refine g_know Tk Tryd.func55 rfl (fun c4 => ?_) (fun c4 => ?_) | refine s_know Tk (fun c4 => ?_) (fun c4 => ?_)
    · have c4 : xt ≥ n := of_decide_eq_true c4
      rw [if_pos (.inr (.inr (.inr c4)))] at hno
      subst hno
      refine g_ret Tk (r := ii 2) rfl rfl rfl trivial rfl rfl ?_
      rfl
    have c4 : ¬ xt ≥ n := of_decide_eq_false c4
    rw [if_neg (by omega)] at hno
    have hcx := fun O => hcn O xe
    first | refine g_call Tk Tryd.func55 (hcx _) rfl rfl rfl rfl rfl ?_ | refine s_callq Tk (fun _ => hcx _) rfl rfl rfl ?_
    first | refine g_cnd Tk Tryd.func55 rfl (fun c5 => ?_) (fun c5 => ?_) | refine g_know Tk Tryd.func55 rfl (fun c5 => ?_) (fun c5 => ?_) | refine s_know Tk (fun c5 => ?_) (fun c5 => ?_)
    · have c5 : decide (xe ∈ al) = false := notT c5
      have c5 : xe ∉ al := of_decide_eq_false c5
      rw [if_pos c5] at hno
      subst hno
      refine g_ret Tk (r := ii 9) rfl rfl rfl trivial rfl rfl ?_
      rfl
    have c5 : decide (xe ∈ al) = true := notF c5
    have c5 : xe ∈ al := of_decide_eq_true c5
    rw [if_neg (by simpa using c5)] at hno
    clear hcn hcx
    rcases hp with ⟨h0, hpr⟩ | ⟨hp1, hpr⟩
    · rw [hpr, if_neg (by simp)] at hno
      refine g_drawn Tk Tryd.func55 mixedT rfl ?_
      first | refine g_cnd Tk Tryd.func55 rfl (fun c6 => ?_) (fun c6 => ?_) | refine g_know Tk Tryd.func55 rfl (fun c6 => ?_) (fun c6 => ?_) | refine s_know Tk (fun c6 => ?_) (fun c6 => ?_)
      · have c6 : (i : Int) > 0 := of_decide_eq_true c6
        omega
      refine e_done Tk Tryd.func55 (by kernel_rfl) ?_
      repeat (first | refine g_cnd Tk Tryd.func55 rfl (fun _ => ?_) (fun h => absurd h (by decide)) | refine g_know Tk Tryd.func55 rfl (fun _ => ?_) (fun h => absurd h (by decide)) | refine s_know Tk (fun _ => ?_) (fun h => absurd h (by decide)) | refine g_cnd Tk Tryd.func55 rfl (fun h => absurd h (by decide)) (fun _ => ?_) | refine g_know Tk Tryd.func55 rfl (fun h => absurd h (by decide)) (fun _ => ?_) | refine s_know Tk (fun h => absurd h (by decide)) (fun _ => ?_) | refine g_cnd Tk Tryd.func55 rfl (fun _ => ?_) (fun h => absurd (show true = false from h) (by decide)) | refine g_know Tk Tryd.func55 rfl (fun _ => ?_) (fun h => absurd (show true = false from h) (by decide)) | refine s_know Tk (fun _ => ?_) (fun h => absurd (show true = false from h) (by decide)) | refine g_cnd Tk Tryd.func55 rfl (fun h => absurd (show false = true from h) (by decide)) (fun _ => ?_) | refine g_know Tk Tryd.func55 rfl (fun h => absurd (show false = true from h) (by decide)) (fun _ => ?_) | refine s_know Tk (fun h => absurd (show false = true from h) (by decide)) (fun _ => ?_))
      refine g_loop ?_
      exact ih (i + 1, some (xf, xe, xt)) _ _ ⟨h1, hno, hnext⟩ (by simp only; omega) ⟨rfl, hi1, trivial⟩ rfl ⟨rfl, trivial⟩ rfl rfl
    · have gp : (es.map edgI)[(IntKind.i64.wrap ((i : Int) - 1)).toNat]? = some (edgI (es[i - 1]'hp1.2)) := by
        rw [w64 (by omega) (by simp only [max63] at hl; omega), show ((i : Int) - 1).toNat = i - 1 by omega]
        rw [List.getElem?_map, List.getElem?_eq_getElem hp1.2]
        rfl
      have hwp : IntKind.i64.wrap ((i : Int) - 1) = (i : Int) - 1 := w64 (by omega) (by simp only [max63] at hl; omega)
      have n2 : 0 ≤ IntKind.i64.wrap ((i : Int) - 1) ∧ IntKind.i64.wrap ((i : Int) - 1) < (es.length : Int) := by rw [hwp]; omega
      rw [hpr] at hno
      generalize es[i - 1]'hp1.2 = y at *
      obtain ⟨yf, ye, yt⟩ := y
      simp only [Option.any_some, decide_eq_true_eq] at hno
      refine g_drawn Tk Tryd.func55 mixedT rfl ?_
      first | refine g_cnd Tk Tryd.func55 rfl (fun c6 => ?_) (fun c6 => ?_) | refine g_know Tk Tryd.func55 rfl (fun c6 => ?_) (fun c6 => ?_) | refine s_know Tk (fun c6 => ?_) (fun c6 => ?_)
      rotate_left
      · have c6 : ¬ (i : Int) > 0 := of_decide_eq_false c6
        omega
      first | refine g_need Tk Tryd.func55 (by exact n2) ?_ | refine s_need Tk (by exact n2) ?_
      first | refine g_elem Tk Tryd.func55 (gp) ?_ | refine s_elem Tk (gp) ?_
      first | refine g_cnd Tk Tryd.func55 rfl (fun c7 => ?_) (fun c7 => ?_) | refine g_know Tk Tryd.func55 rfl (fun c7 => ?_) (fun c7 => ?_) | refine s_know Tk (fun c7 => ?_) (fun c7 => ?_)
      · have c7 : xf < yf := of_decide_eq_true c7
        rw [if_pos (.inl c7)] at hno
        subst hno
        refine e_done Tk Tryd.func55 (by kernel_rfl) ?_
        repeat (first | refine g_cnd Tk Tryd.func55 rfl (fun _ => ?_) (fun h => absurd h (by decide)) | refine g_know Tk Tryd.func55 rfl (fun _ => ?_) (fun h => absurd h (by decide)) | refine s_know Tk (fun _ => ?_) (fun h => absurd h (by decide)) | refine g_cnd Tk Tryd.func55 rfl (fun h => absurd h (by decide)) (fun _ => ?_) | refine g_know Tk Tryd.func55 rfl (fun h => absurd h (by decide)) (fun _ => ?_) | refine s_know Tk (fun h => absurd h (by decide)) (fun _ => ?_) | refine g_cnd Tk Tryd.func55 rfl (fun _ => ?_) (fun h => absurd (show true = false from h) (by decide)) | refine g_know Tk Tryd.func55 rfl (fun _ => ?_) (fun h => absurd (show true = false from h) (by decide)) | refine s_know Tk (fun _ => ?_) (fun h => absurd (show true = false from h) (by decide)) | refine g_cnd Tk Tryd.func55 rfl (fun h => absurd (show false = true from h) (by decide)) (fun _ => ?_) | refine g_know Tk Tryd.func55 rfl (fun h => absurd (show false = true from h) (by decide)) (fun _ => ?_) | refine s_know Tk (fun h => absurd (show false = true from h) (by decide)) (fun _ => ?_))
        refine g_ret Tk (r := ii 5) rfl rfl rfl trivial rfl rfl ?_
        rfl
      have c7 : ¬ xf < yf := of_decide_eq_false c7
      first | refine g_need Tk Tryd.func55 (by exact n2) ?_ | refine s_need Tk (by exact n2) ?_
      first | refine g_elem Tk Tryd.func55 (gp) ?_ | refine s_elem Tk (gp) ?_
      first | refine g_cnd Tk Tryd.func55 rfl (fun c8 => ?_) (fun c8 => ?_) | refine g_know Tk Tryd.func55 rfl (fun c8 => ?_) (fun c8 => ?_) | refine s_know Tk (fun c8 => ?_) (fun c8 => ?_)
      · have c8 : xf = yf := beqT c8
        first | refine g_need Tk Tryd.func55 (by exact n2) ?_ | refine s_need Tk (by exact n2) ?_
        first | refine g_elem Tk Tryd.func55 (gp) ?_ | refine s_elem Tk (gp) ?_
        refine e_done Tk Tryd.func55 (by kernel_rfl) ?_
        first | refine g_cnd Tk Tryd.func55 rfl (fun c9 => ?_) (fun c9 => ?_) | refine g_know Tk Tryd.func55 rfl (fun c9 => ?_) (fun c9 => ?_) | refine s_know Tk (fun c9 => ?_) (fun c9 => ?_)
        · have c9 : xe ≤ ye := of_decide_eq_true c9
          rw [if_pos (.inr ⟨c8, c9⟩)] at hno
          subst hno
          refine g_ret Tk (r := ii 5) rfl rfl rfl trivial rfl rfl ?_
          rfl
        · have c9 : ¬ xe ≤ ye := of_decide_eq_false c9
          rw [if_neg (by omega)] at hno
          refine g_loop ?_
          exact ih (i + 1, some (xf, xe, xt)) _ _ ⟨h1, hno, hnext⟩ (by simp only; omega) ⟨rfl, hi1, trivial⟩ rfl ⟨rfl, trivial⟩ rfl rfl
      · have c8 : xf ≠ yf := beqF c8
        rw [if_neg (by omega)] at hno
        refine e_done Tk Tryd.func55 (by kernel_rfl) ?_
        repeat (first | refine g_cnd Tk Tryd.func55 rfl (fun _ => ?_) (fun h => absurd h (by decide)) | refine g_know Tk Tryd.func55 rfl (fun _ => ?_) (fun h => absurd h (by decide)) | refine s_know Tk (fun _ => ?_) (fun h => absurd h (by decide)) | refine g_cnd Tk Tryd.func55 rfl (fun h => absurd h (by decide)) (fun _ => ?_) | refine g_know Tk Tryd.func55 rfl (fun h => absurd h (by decide)) (fun _ => ?_) | refine s_know Tk (fun h => absurd h (by decide)) (fun _ => ?_) | refine g_cnd Tk Tryd.func55 rfl (fun _ => ?_) (fun h => absurd (show true = false from h) (by decide)) | refine g_know Tk Tryd.func55 rfl (fun _ => ?_) (fun h => absurd (show true = false from h) (by decide)) | refine s_know Tk (fun _ => ?_) (fun h => absurd (show true = false from h) (by decide)) | refine g_cnd Tk Tryd.func55 rfl (fun h => absurd (show false = true from h) (by decide)) (fun _ => ?_) | refine g_know Tk Tryd.func55 rfl (fun h => absurd (show false = true from h) (by decide)) (fun _ => ?_) | refine s_know Tk (fun h => absurd (show false = true from h) (by decide)) (fun _ => ?_))
        refine g_loop ?_
        exact ih (i + 1, some (xf, xe, xt)) _ _ ⟨h1, hno, hnext⟩ (by simp only; omega) ⟨rfl, hi1, trivial⟩ rfl ⟨rfl, trivial⟩ rfl rfl
  · have h1 : es.length ≤ i := by simpa using g1
    rw [List.drop_eq_nil_of_le h1] at hno
    simp only [chkEds] at hno
    subst hno
    refine g_ret Tk (r := ii 0) rfl rfl rfl trivial rfl rfl ?_
    rfl
end Go.AI


/- flatten.From. -/
namespace Go.AI
open Go.Proofs
set_option maxRecDepth 20000
def mvE (x : Edg) : Mv := ⟨x.1, x.2.1, x.2.2, trueE, []⟩
def fromE (a : Aut) : Ext := ⟨a.alpha, a.states, 0, a.marked, [], a.edges.map mvE⟩
def zeroX : Ext := ⟨[], 0, 0, [], [], []⟩
/-- From: the extended automaton, or the first error. -/
def fromR (a : Aut) : Ext × Int := if chkA a ≠ 0 then (zeroX, chkA a) else if a.states = 0 then (zeroX, 12) else if a.states > 64 ∨ (a.edges.length : Int) > 256 then (zeroX, 3) else (fromE a, 0)
abbrev mvN (x : Edg) : List I := [vi x.1, vi x.2.1, vi x.2.2, vi 6, vi 0, vi 0, .sl 4 2 (exIs [zeroE, zeroE]), .v (.slice none 0 0)]
abbrev omvN (l : List Edg) : Ob := .arr 122 8 l.length (l.map mvN) true
theorem omvN_app (l : List Edg) (e : Edg) : Ob.arr 122 8 (l.length + 1) (l.map mvN ++ [mvN e]) true = omvN (l ++ [e]) := by simp
theorem co_mvs : ∀ l : List Edg, CoLL (l.map mvN) ((l.map mvE).map mvI)
  | [] => .nil
  | x :: r => .cons (.cons (CoI.refl _) (.cons (CoI.refl _) (.cons (CoI.refl _) (.cons (CoI.refl _) (.cons (CoI.refl _) (.cons (CoI.refl _) (.cons (CoI.refl _) (.cons coI_nil .nil)))))))) (co_mvs r)
theorem coZX {e : Int} : CoD (.tup [.agg [.i (.v (.slice none 0 0)), ii 0, ii 0, .i (.v (.slice none 0 0)), .i (.v (.slice none 0 0)), .i (.v (.slice none 0 0))], ii e]) (.tup [extD zeroX, ii e]) :=
  coD_tup (.cons (coD_agg (.cons (coD_i coI_nil) (.cons (CoD.refl _) (.cons (CoD.refl _) (.cons (coD_i coI_nil) (.cons (coD_i coI_nil) (.cons (coD_i coI_nil) .nil))))))) (CoDL.refl _))
theorem from54 (O : List Heap) (a : Aut) (hl : a.edges.length ≤ 1000000) (hal : a.alpha.length ≤ 1000000) (hmk : a.marked.length ≤ 1000000) : ASpec Tryd.prog 54 [autD a] O (.tup [extD (fromR a).1, ii (fromR a).2]) [] O := by
  have h1 := fun O => check116 O a (by simp only [max63]; omega) (by simp only [max63]; omega) (by simp only [max63]; omega)
  have h2 := fun O => clone84 O a.alpha (by simp only [big]; omega)
  have h3 := fun O => clone84 O a.marked (by simp only [big]; omega)
  have ht := fun O => true42 O
  generalize hR : fromR a = R
  unfold fromR at hR
  generalize chkA a = e at *
  obtain ⟨al, n, mk, es⟩ := a
  simp only at hR h1 h2 h3 hl
  refine aspec_intro Tk Tryd.func54 rfl Tryd.call54 Tryd.ntmps54 (Nat.le_of_ble_eq_true rfl) fun E => ?_
  refine g_run Tk Tryd.func54 ?_
  first | refine g_call Tk Tryd.func54 (h1 _) rfl rfl rfl rfl rfl ?_ | refine s_callq Tk (fun _ => h1 _) rfl rfl rfl ?_
  first | refine g_cnd Tk Tryd.func54 rfl (fun c1 => ?_) (fun c1 => ?_) | refine g_know Tk Tryd.func54 rfl (fun c1 => ?_) (fun c1 => ?_) | refine s_know Tk (fun c1 => ?_) (fun c1 => ?_)
  · have c1 : e ≠ 0 := bneT c1
    rw [if_pos c1] at hR
    subst hR
    refine g_ret_co Tk (r := _) rfl rfl rfl trivial rfl rfl ?_
    exact coZX
  have c1 : e = 0 := bneF c1
  rw [if_neg (by simpa using c1)] at hR
  first | refine g_cnd Tk Tryd.func54 rfl (fun c2 => ?_) (fun c2 => ?_) | refine g_know Tk Tryd.func54 rfl (fun c2 => ?_) (fun c2 => ?_) | refine s_know Tk (fun c2 => ?_) (fun c2 => ?_)
  · have c2 : n = 0 := beqT c2
    rw [if_pos c2] at hR
    subst hR
    refine g_ret_co Tk (r := _) rfl rfl rfl trivial rfl rfl ?_
    exact coZX
  have c2 : n ≠ 0 := beqF c2
  rw [if_neg c2] at hR
  first | refine g_cnd Tk Tryd.func54 rfl (fun c3 => ?_) (fun c3 => ?_) | refine g_know Tk Tryd.func54 rfl (fun c3 => ?_) (fun c3 => ?_) | refine s_know Tk (fun c3 => ?_) (fun c3 => ?_)
  · have c3 : n > 64 := of_decide_eq_true c3
    rw [if_pos (.inl c3)] at hR
    subst hR
    repeat (first | refine g_cnd Tk Tryd.func54 rfl (fun _ => ?_) (fun h => absurd h (by decide)) | refine g_know Tk Tryd.func54 rfl (fun _ => ?_) (fun h => absurd h (by decide)) | refine s_know Tk (fun _ => ?_) (fun h => absurd h (by decide)) | refine g_cnd Tk Tryd.func54 rfl (fun h => absurd h (by decide)) (fun _ => ?_) | refine g_know Tk Tryd.func54 rfl (fun h => absurd h (by decide)) (fun _ => ?_) | refine s_know Tk (fun h => absurd h (by decide)) (fun _ => ?_) | refine g_cnd Tk Tryd.func54 rfl (fun _ => ?_) (fun h => absurd (show true = false from h) (by decide)) | refine g_know Tk Tryd.func54 rfl (fun _ => ?_) (fun h => absurd (show true = false from h) (by decide)) | refine s_know Tk (fun _ => ?_) (fun h => absurd (show true = false from h) (by decide)) | refine g_cnd Tk Tryd.func54 rfl (fun h => absurd (show false = true from h) (by decide)) (fun _ => ?_) | refine g_know Tk Tryd.func54 rfl (fun h => absurd (show false = true from h) (by decide)) (fun _ => ?_) | refine s_know Tk (fun h => absurd (show false = true from h) (by decide)) (fun _ => ?_))
    refine g_ret_co Tk (r := _) rfl rfl rfl trivial rfl rfl ?_
    exact coZX
  have c3 : ¬ n > 64 := of_decide_eq_false c3
  first | refine g_cnd Tk Tryd.func54 rfl (fun c4 => ?_) (fun c4 => ?_) | refine g_know Tk Tryd.func54 rfl (fun c4 => ?_) (fun c4 => ?_) | refine s_know Tk (fun c4 => ?_) (fun c4 => ?_)
  · have c4 : (es.length : Int) > 256 := of_decide_eq_true c4
    rw [if_pos (.inr c4)] at hR
    subst hR
    refine g_ret_co Tk (r := _) rfl rfl rfl trivial rfl rfl ?_
    exact coZX
  have c4 : ¬ (es.length : Int) > 256 := of_decide_eq_false c4
  rw [if_neg (by omega)] at hR
  subst hR
  clear h1
  refine g_drawn Tk Tryd.func54 mixedT rfl ?_
  first | refine g_call Tk Tryd.func54 (h2 _) rfl rfl rfl rfl rfl ?_ | refine s_callq Tk (fun _ => h2 _) rfl rfl rfl ?_
  first | refine g_call Tk Tryd.func54 (h3 _) rfl rfl rfl rfl rfl ?_ | refine s_callq Tk (fun _ => h3 _) rfl rfl rfl ?_
  refine s_put Tk rfl rfl rfl ?_
  refine e_done Tk Tryd.func54 (by kernel_rfl) ?_
  refine g_loop ?_
  refine rch_wk (wk_nilbox2 5 57 122 8 (pre := [ints al, ii n, ii 0, ints mk, .i (.v (.slice none 0 0))]) (post := []) rfl rfl rfl) ?_
  refine rch_loop2 (fun i : Nat => [(2, .own 0 2 0 0), (5, .own 0 5 0 0), (40, edgs es), (41, ii es.length), (42, ii i)]) (fun i => [(2, .box [.i (.v (.slice none 0 0)), ii 0, ii 0, .i (.v (.slice none 0 0)), .i (.v (.slice none 0 0)), .i (.v (.slice none 0 0))]), (5, .box [ints al, ii n, ii 0, ints mk, .i (.v (.slice none 0 0)), .osl 0 57]), (57, omvN (es.take i))]) (fun _ => O) 61
    (fun i => i ≤ es.length) (fun i => es.length - i) 0 (Nat.zero_le _) ⟨rfl, rfl, rfl, rfl, rfl, trivial⟩ rfl ⟨rfl, rfl, rfl, trivial⟩ rfl rfl ?_
  intro i hi ih
  refine g_run Tk Tryd.func54 ?_
  first | refine g_cnd Tk Tryd.func54 rfl (fun g1 => ?_) (fun g1 => ?_) | refine g_know Tk Tryd.func54 rfl (fun g1 => ?_) (fun g1 => ?_) | refine s_know Tk (fun g1 => ?_) (fun g1 => ?_)
  · have h1 : i < es.length := by simpa using g1
    have ge : (es.map edgI)[(i : Int).toNat]? = some (edgI es[i]) := get_mapZ h1
    have hlt : (es.take i).length ≤ 1000000 := by rw [List.length_take]; omega
    have htk : es.take (i + 1) = es.take i ++ [es[i]] := List.take_succ_eq_append_getElem h1
    generalize es[i] = x at *
    obtain ⟨xf, xe, xt⟩ := x
    first | refine g_need Tk Tryd.func54 (by exact ⟨by omega, by show (i : Int) < (es.length : Int); omega⟩) ?_ | refine s_need Tk (by exact ⟨by omega, by show (i : Int) < (es.length : Int); omega⟩) ?_
    first | refine g_elem Tk Tryd.func54 (ge) ?_ | refine s_elem Tk (ge) ?_
    refine g_drawn Tk Tryd.func54 mixedT rfl ?_
    first | refine g_call Tk Tryd.func54 (ht _) rfl rfl rfl rfl rfl ?_ | refine s_callq Tk (fun _ => ht _) rfl rfl rfl ?_
    refine e_tail Tk Tryd.func54 ([11, 12, 13]) (by kernel_rfl) (by kernel_rfl) ?_
    first | refine g_need Tk Tryd.func54 (by exact ⟨by show ((es.take i).length + 1) * 96 ≤ 140737488355328; omega, by show (es.take i).length + 1 ≤ 9223372036854775807; omega⟩) ?_ | refine s_need Tk (by exact ⟨by show ((es.take i).length + 1) * 96 ≤ 140737488355328; omega, by show (es.take i).length + 1 ≤ 9223372036854775807; omega⟩) ?_
    refine g_loop ?_
    refine ih (i + 1) _ _ h1 (by omega) ⟨rfl, rfl, rfl, rfl, congrArg ii (wsucc (n := 1000001) (by omega) (by decide)), trivial⟩ rfl ⟨rfl, rfl, ?_, trivial⟩ rfl rfl
    show _ = some (omvN (es.take (i + 1)))
    rw [htk]
    exact congrArg some (omvN_app (es.take i) (xf, xe, xt))
  · have h1 : es.length ≤ i := by simpa using g1
    refine g_rwk (wk_freeze 57 rfl rfl) ?_
    refine g_rwk (wk_imm rfl) ?_
    refine g_ret_co Tk (r := _) rfl rfl rfl trivial rfl rfl ?_
    show CoD (.tup [.agg [ints al, ii n, ii 0, ints mk, .i (.v (.slice none 0 0)), .i (.sl 8 (es.take i).length ((es.take i).map mvN))], ii 0]) _
    rw [List.take_of_length_le h1]
    refine coD_tup (.cons (coD_agg (.cons (CoD.refl _) (.cons (CoD.refl _) (.cons (CoD.refl _) (.cons (CoD.refl _) (.cons (coD_i coI_nil) (.cons ?_ .nil))))))) (CoDL.refl _))
    show CoD _ (D.i (.sl 8 (es.map mvE).length ((es.map mvE).map mvI)))
    rw [List.length_map]
    exact coD_i (coI_sl (co_mvs es))
end Go.AI


/- overseerref03: Found, Canonical. -/
namespace Go.AI
open Go.Proofs
set_option maxRecDepth 20000
theorem has118o (O : List Heap) (l : List Int) (x : Int) (e w : Nat) (ho : objAt O e w = some (oints l)) (hl : l.length ≤ max63) : ASpec Tryd.prog 118 [.osl e w, ii x] O (bb (decide (x ∈ l))) [] O := by
  have hO : ∀ H, objAt (H :: O) (e + 1) w = some (oints l) := fun H => up_obj ho
  have hR : decide (x ∈ l) = decide (x ∈ l.drop 0) := rfl
  generalize decide (x ∈ l) = R at *
  refine aspec_intro Tk Tryd.func118 rfl Tryd.call118 Tryd.ntmps118 (Nat.le_of_ble_eq_true rfl) fun E => ?_
  refine g_run Tk Tryd.func118 ?_
  refine g_loop ?_
  refine rch_loop2 (fun i : Nat => [(0, .osl (e + 1) w), (1, ii x), (5, ii i)]) (fun _ => []) (fun _ => O) 18
    (fun i => i ≤ l.length ∧ R = decide (x ∈ l.drop i)) (fun i => l.length - i) 0 ⟨Nat.zero_le _, hR⟩ ⟨rfl, rfl, rfl, trivial⟩ rfl trivial rfl rfl ?_
  rintro i ⟨hi, hno⟩ ih
  clear hR
  refine g_run Tk Tryd.func118 ?_
  first | refine g_obj Tk Tryd.func118 (hO _) ?_ | refine s_obj Tk (hO _) ?_
  first | refine g_cnd Tk Tryd.func118 rfl (fun g1 => ?_) (fun g1 => ?_) | refine g_know Tk Tryd.func118 rfl (fun g1 => ?_) (fun g1 => ?_) | refine s_know Tk (fun g1 => ?_) (fun g1 => ?_)
  · have h1 : i < l.length := by simpa using g1
    have gl : (l.map fun x => [vi x])[(i : Int).toNat]? = some [vi l[i]] := get_mapZ (f := fun x => [vi x]) h1
    have dl : l.drop i = l[i] :: l.drop (i + 1) := List.drop_eq_getElem_cons h1
    simp only [dl, List.mem_cons] at hno
    clear dl
    generalize l[i] = y at *
    first | refine g_obj Tk Tryd.func118 (hO _) ?_ | refine s_obj Tk (hO _) ?_
    first | refine g_need Tk Tryd.func118 (by exact ⟨by omega, by show (i : Int) < (l.length : Int); omega⟩) ?_ | refine s_need Tk (by exact ⟨by omega, by show (i : Int) < (l.length : Int); omega⟩) ?_
    first | refine g_obj Tk Tryd.func118 (hO _) ?_ | refine s_obj Tk (hO _) ?_
    first | refine g_elem Tk Tryd.func118 (gl) ?_ | refine s_elem Tk (gl) ?_
    first | refine g_cnd Tk Tryd.func118 rfl (fun g2 => ?_) (fun g2 => ?_) | refine g_know Tk Tryd.func118 rfl (fun g2 => ?_) (fun g2 => ?_) | refine s_know Tk (fun g2 => ?_) (fun g2 => ?_)
    · have g2 : y = x := beqT g2
      subst g2
      refine g_ret Tk (r := bb true) rfl rfl rfl trivial rfl rfl ?_
      rw [hno]
      simp
    · have g2 : y ≠ x := beqF g2
      have hno : R = decide (x ∈ l.drop (i + 1)) := by
        rw [hno]
        exact decide_eq_decide.2 ⟨fun h => h.resolve_left (Ne.symm g2), .inr⟩
      refine g_loop ?_
      exact ih (i + 1) _ _ ⟨h1, hno⟩ (by omega) ⟨rfl, rfl, congrArg ii (wsucc h1 hl), trivial⟩ rfl trivial rfl rfl
  · have h1 : l.length ≤ i := by simpa using g1
    simp only [List.drop_eq_nil_of_le h1] at hno
    refine g_ret Tk (r := bb false) rfl rfl rfl trivial rfl rfl ?_
    rw [hno]
    simp
def fvis (es : List Edg) (s : Int) : List Int → List Int → List Int
  | [], out => out
  | ev :: r, out => fvis es s r (if 0 ≤ stp3 es s ev ∧ stp3 es s ev ∉ out then out ++ [stp3 es s ev] else out)
def fndL (es : List Edg) (alpha : List Int) : Nat → Nat → List Int → List Int
  | 0, _, out => out
  | f + 1, i, out => match out[i]? with
    | none => out
    | some s => fndL es alpha f (i + 1) (fvis es s alpha out)
def foundR (a : Aut) : List Int := fndL a.edges a.alpha 4097 0 [0]
structure fOk (n : Int) (out : List Int) : Prop where
  nd : out.Nodup
  b : ∀ x ∈ out, 0 ≤ x ∧ x < n
theorem fOk_len {n : Int} {out : List Int} (h : fOk n out) : (out.length : Int) ≤ n ∨ out = [] := by
  cases out with
  | nil => exact .inr rfl
  | cons x r =>
    left
    have hx := h.b x (by simp)
    have h1 := nodup_bound (n := n.toNat) (l := (x :: r).map Int.toNat) ?_ ?_
    · rw [List.length_map] at h1; omega
    · unfold List.Nodup
      rw [List.pairwise_map]
      refine h.nd.imp_of_mem fun {a b} ha hb hne e => hne ?_
      have := h.b a ha
      have := h.b b hb
      omega
    · intro y hy
      obtain ⟨z, hz, rfl⟩ := List.mem_map.1 hy
      have := h.b z hz
      omega
theorem stp3_b {n : Int} : ∀ {es : List Edg} {s ev : Int}, (∀ x ∈ es, 0 ≤ x.2.2 ∧ x.2.2 < n) → stp3 es s ev = -1 ∨ (0 ≤ stp3 es s ev ∧ stp3 es s ev < n)
  | [], _, _, _ => .inl rfl
  | x :: r, s, ev, h => by
    unfold stp3
    split
    · exact .inr (h x (by simp))
    · exact stp3_b fun y hy => h y (by simp [hy])
theorem fOk_app {n : Int} {out : List Int} {t : Int} (h : fOk n out) (h1 : 0 ≤ t ∧ t < n) (h2 : t ∉ out) : fOk n (out ++ [t]) := by
  refine ⟨?_, fun x hx => ?_⟩
  · unfold List.Nodup
    rw [List.pairwise_append]
    refine ⟨h.nd, List.pairwise_singleton _ _, fun a ha b hb => ?_⟩
    rw [List.mem_singleton] at hb
    subst hb
    exact fun e => h2 (e ▸ ha)
  · rcases List.mem_append.1 hx with hx | hx
    · exact h.b x hx
    · rw [List.mem_singleton] at hx
      subst hx
      exact h1
theorem fndL_done {es : List Edg} {alpha out : List Int} {i : Nat} (h : out.length ≤ i) : ∀ f, fndL es alpha f i out = out
  | 0 => rfl
  | f + 1 => by simp only [fndL, List.getElem?_eq_none h]
set_option maxHeartbeats 4000000 in
theorem found119 (O : List Heap) (a : Aut) (ha : autOk a) (h1 : 1 ≤ a.states) : ASpec Tryd.prog 119 [autD a] O (ints (foundR a)) [] O := by
  obtain ⟨c1, c2, c3, c4⟩ := chk_parts ha.chk
  obtain ⟨_, eb, _⟩ := chkEds_sorted c4
  have hed := ha.ed
  have hal := ha.al
  have hst := fun O s ev => step121 O a s ev (by simp only [max63]; omega)
  have hsb := fun s ev => stp3_b (n := a.states) (es := a.edges) (s := s) (ev := ev) fun x hx => (eb x hx).2.1
  have hno : foundR a = fndL a.edges a.alpha (4097 - 0) 0 [0] := rfl
  generalize foundR a = R at *
  obtain ⟨al, n, mk, es⟩ := a
  simp only at *
  clear c1 c3 c4 eb
  refine aspec_intro Tk Tryd.func119 rfl Tryd.call119 Tryd.ntmps119 (Nat.le_of_ble_eq_true rfl) fun E => ?_
  refine g_run Tk Tryd.func119 ?_
  first | refine g_cnd Tk Tryd.func119 rfl (fun g0 => ?_) (fun g0 => ?_) | refine g_know Tk Tryd.func119 rfl (fun g0 => ?_) (fun g0 => ?_) | refine s_know Tk (fun g0 => ?_) (fun g0 => ?_)
  rotate_left
  · have g0 : ¬ n > 0 := of_decide_eq_false g0
    omega
  first | refine g_need Tk Tryd.func119 (by exact ⟨by decide, by decide⟩) ?_ | refine s_need Tk (by exact ⟨by decide, by decide⟩) ?_
  refine g_loop ?_
  refine rch_wk (wk_ren 12 48 rfl rfl rfl) ?_
  refine rch_loop2 (fun x : Nat × List Int => [(1, .own 0 1 0 0), (3, .osl 0 48), (4, ii x.1)]) (fun x => [(1, .box [ints al, ii n, ints mk, edgs es]), (48, oints x.2)]) (fun _ => O) 50
    (fun x => x.1 ≤ x.2.length ∧ fOk n x.2 ∧ R = fndL es al (4097 - x.1) x.1 x.2) (fun x => 4097 - x.1) (0, [0])
    ⟨Nat.zero_le _, ⟨by simp, fun x hx => by rw [List.mem_singleton] at hx; subst hx; omega⟩, hno⟩ ⟨rfl, rfl, rfl, trivial⟩ rfl ⟨rfl, rfl, trivial⟩ rfl rfl ?_
  clear hno g0
  rintro ⟨i, out⟩ ⟨hi, hf, hno⟩ ih
  simp only at hi hf hno
  have hol : out.length ≤ 4096 := by
    rcases fOk_len hf with h | h
    · omega
    · rw [h]; decide
  refine g_run Tk Tryd.func119 ?_
  first | refine g_cnd Tk Tryd.func119 rfl (fun g1 => ?_) (fun g1 => ?_) | refine g_know Tk Tryd.func119 rfl (fun g1 => ?_) (fun g1 => ?_) | refine s_know Tk (fun g1 => ?_) (fun g1 => ?_)
  · have h1 : i < out.length := by simpa using g1
    clear g1
    have hs0 : out[i]? = some out[i] := List.getElem?_eq_getElem h1
    have hsr := hf.b _ (List.getElem_mem h1)
    generalize out[i] = s at *
    have hno : R = fndL es al (4097 - (i + 1)) (i + 1) (fvis es s al out) := by
      rw [hno, show 4097 - i = (4097 - (i + 1)) + 1 by omega]
      simp only [fndL, hs0]
    have hV0 : fvis es s al out = fvis es s (al.drop 0) out := rfl
    generalize fvis es s al out = V at *
    refine g_loop ?_
    refine rch_loop2 (fun x : Nat × List Int => [(1, .own 0 1 0 0), (3, .osl 0 48), (4, ii i), (5, ii x.1)]) (fun x => [(1, .box [ints al, ii n, ints mk, edgs es]), (48, oints x.2)]) (fun _ => O) 50
      (fun x => x.1 ≤ al.length ∧ fOk n x.2 ∧ i < x.2.length ∧ x.2[i]? = some s ∧ V = fvis es s (al.drop x.1) x.2) (fun x => al.length - x.1) (0, out)
      ⟨Nat.zero_le _, hf, h1, hs0, hV0⟩ ⟨rfl, rfl, rfl, rfl, trivial⟩ rfl ⟨rfl, rfl, trivial⟩ rfl rfl ?_
    clear hV0 hf hs0 h1 hol hi
    rintro ⟨j, out⟩ ⟨hj, hf, hil, hs, hV⟩ ih2
    simp only at hj hf hil hs hV
    have hol : out.length ≤ 4096 := by
      rcases fOk_len hf with h | h
      · omega
      · rw [h]; decide
    refine g_run Tk Tryd.func119 ?_
    first | refine g_cnd Tk Tryd.func119 rfl (fun g2 => ?_) (fun g2 => ?_) | refine g_know Tk Tryd.func119 rfl (fun g2 => ?_) (fun g2 => ?_) | refine s_know Tk (fun g2 => ?_) (fun g2 => ?_)
    · have h3 : j < al.length := by simpa using g2
      clear g2
      have ga : (al.map fun x => [vi x])[(j : Int).toNat]? = some [vi al[j]] := get_mapZ (f := fun x => [vi x]) h3
      have da : al.drop j = al[j] :: al.drop (j + 1) := List.drop_eq_getElem_cons h3
      rw [da] at hV
      simp only [fvis] at hV
      clear da
      generalize al[j] = ev at *
      have gs : (out.map fun x => [vi x])[(i : Int).toNat]? = some [vi s] := by
        rw [List.getElem?_map, show (i : Int).toNat = i by omega, hs]
        rfl
      have hst1 := fun O => hst O s ev
      have hsb1 := hsb s ev
      generalize stp3 es s ev = t at *
      have hj1 : ii (IntKind.i64.wrap ((j : Int) + 1)) = ii ((j + 1 : Nat) : Int) := congrArg ii (wsucc (n := 1000001) (by omega) (by decide))
      have hho := fun O ho => has118o O out t 0 48 ho (by simp only [max63]; omega)
      refine g_drawn Tk Tryd.func119 mixedT rfl ?_
      first | refine g_need Tk Tryd.func119 (by exact ⟨by omega, by show (i : Int) < (out.length : Int); omega⟩) ?_ | refine s_need Tk (by exact ⟨by omega, by show (i : Int) < (out.length : Int); omega⟩) ?_
      first | refine g_elem Tk Tryd.func119 (gs) ?_ | refine s_elem Tk (gs) ?_
      first | refine g_need Tk Tryd.func119 (by exact ⟨by omega, by show (j : Int) < (al.length : Int); omega⟩) ?_ | refine s_need Tk (by exact ⟨by omega, by show (j : Int) < (al.length : Int); omega⟩) ?_
      first | refine g_elem Tk Tryd.func119 (ga) ?_ | refine s_elem Tk (ga) ?_
      first | refine g_call Tk Tryd.func119 (hst1 _) rfl rfl rfl rfl rfl ?_ | refine s_callq Tk (fun _ => hst1 _) rfl rfl rfl ?_
      refine e_done Tk Tryd.func119 (by kernel_rfl) ?_
      first | refine g_cnd Tk Tryd.func119 rfl (fun c1 => ?_) (fun c1 => ?_) | refine g_know Tk Tryd.func119 rfl (fun c1 => ?_) (fun c1 => ?_) | refine s_know Tk (fun c1 => ?_) (fun c1 => ?_)
      · have c1 : t ≥ 0 := of_decide_eq_true c1
        first | refine g_call Tk Tryd.func119 (hho _ rfl) rfl rfl rfl rfl rfl ?_ | refine s_callq Tk (fun _ => hho _ rfl) rfl rfl rfl ?_
        first | refine g_cnd Tk Tryd.func119 rfl (fun c2 => ?_) (fun c2 => ?_) | refine g_know Tk Tryd.func119 rfl (fun c2 => ?_) (fun c2 => ?_) | refine s_know Tk (fun c2 => ?_) (fun c2 => ?_)
        · have c2 : t ∉ out := of_decide_eq_false (notT c2)
          rw [if_pos ⟨c1, c2⟩] at hV
          first | refine g_need Tk Tryd.func119 (by exact ⟨by show (out.length + 1) * 8 ≤ 140737488355328; omega, by show out.length + 1 ≤ 9223372036854775807; omega⟩) ?_ | refine s_need Tk (by exact ⟨by show (out.length + 1) * 8 ≤ 140737488355328; omega, by show out.length + 1 ≤ 9223372036854775807; omega⟩) ?_
          refine g_loop ?_
          refine ih2 (j + 1, out ++ [t]) _ _ ⟨h3, fOk_app hf (by omega) c2, by simp only [List.length_append]; omega, (List.getElem?_append_left hil).trans hs, hV⟩ (by simp only; omega) ⟨rfl, rfl, rfl, hj1, trivial⟩ rfl ⟨rfl, congrArg some (oints_app out t), trivial⟩ rfl rfl
        · have c2 : t ∈ out := of_decide_eq_true (notF c2)
          rw [if_neg (fun h => h.2 c2)] at hV
          refine g_loop ?_
          exact ih2 (j + 1, out) _ _ ⟨h3, hf, hil, hs, hV⟩ (by simp only; omega) ⟨rfl, rfl, rfl, hj1, trivial⟩ rfl ⟨rfl, rfl, trivial⟩ rfl rfl
      · have c1 : ¬ t ≥ 0 := of_decide_eq_false c1
        rw [if_neg (fun h => c1 h.1)] at hV
        repeat (first | refine g_cnd Tk Tryd.func119 rfl (fun _ => ?_) (fun h => absurd h (by decide)) | refine g_know Tk Tryd.func119 rfl (fun _ => ?_) (fun h => absurd h (by decide)) | refine s_know Tk (fun _ => ?_) (fun h => absurd h (by decide)) | refine g_cnd Tk Tryd.func119 rfl (fun h => absurd h (by decide)) (fun _ => ?_) | refine g_know Tk Tryd.func119 rfl (fun h => absurd h (by decide)) (fun _ => ?_) | refine s_know Tk (fun h => absurd h (by decide)) (fun _ => ?_) | refine g_cnd Tk Tryd.func119 rfl (fun _ => ?_) (fun h => absurd (show true = false from h) (by decide)) | refine g_know Tk Tryd.func119 rfl (fun _ => ?_) (fun h => absurd (show true = false from h) (by decide)) | refine s_know Tk (fun _ => ?_) (fun h => absurd (show true = false from h) (by decide)) | refine g_cnd Tk Tryd.func119 rfl (fun h => absurd (show false = true from h) (by decide)) (fun _ => ?_) | refine g_know Tk Tryd.func119 rfl (fun h => absurd (show false = true from h) (by decide)) (fun _ => ?_) | refine s_know Tk (fun h => absurd (show false = true from h) (by decide)) (fun _ => ?_))
        refine g_loop ?_
        exact ih2 (j + 1, out) _ _ ⟨h3, hf, hil, hs, hV⟩ (by simp only; omega) ⟨rfl, rfl, rfl, hj1, trivial⟩ rfl ⟨rfl, rfl, trivial⟩ rfl rfl
    · have h3 : al.length ≤ j := by simpa using g2
      rw [List.drop_eq_nil_of_le h3] at hV
      simp only [fvis] at hV
      subst hV
      refine g_loop ?_
      exact ih (i + 1, V) _ _ ⟨by simp only; omega, hf, hno⟩ (by simp only; omega) ⟨rfl, rfl, congrArg ii (wsucc (n := 5000) (by omega) (by decide)), trivial⟩ rfl ⟨rfl, rfl, trivial⟩ rfl rfl
  · have h1 : out.length ≤ i := by simpa using g1
    rw [fndL_done h1] at hno
    subst hno
    refine g_rwk (wk_freeze 48 rfl rfl) ?_
    refine g_ret Tk (r := ints R) rfl rfl rfl trivial rfl rfl ?_
    rfl
end Go.AI
