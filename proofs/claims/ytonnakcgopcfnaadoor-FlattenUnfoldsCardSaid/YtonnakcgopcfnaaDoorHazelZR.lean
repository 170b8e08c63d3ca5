/- The layer of abstract runs, part 44. -/
import Derived.Test.YtonnakcgopcfnaaDoorHazelZQ
import Derived.KernelRfl
set_option linter.unusedSimpArgs false
set_option linter.unusedVariables false
set_option linter.all false

/- Automata: Check. -/
namespace Go.AI
open Go.Proofs
set_option maxRecDepth 20000
set_option maxHeartbeats 4000000 in
theorem checkEdges160 (O : List Heap) (a : Aut) (hl : a.edges.length ≤ max63) (hal : a.alpha.length ≤ max63) : ASpec Tryd.prog 160 [autD a] O (ii (chkEds a.alpha a.states none a.edges)) [] O := by
  obtain ⟨al, n, mk, es⟩ := a
  simp only at hl hal ⊢
  generalize hR : chkEds al n none es = R
  refine aspec_intro Tk Tryd.func160 rfl Tryd.call160 Tryd.ntmps160 (Nat.le_of_ble_eq_true rfl) fun E => ?_
  refine g_run Tk Tryd.func160 ?_
  refine g_loop ?_
  refine rch_loop2 (fun x : Nat × Option Edg => [(1, .own 0 1 0 0), (7, edgs es), (8, ii es.length), (9, ii x.1)]) (fun _ => [(1, .box [ints al, ii n, ints mk, edgs es])]) (fun _ => O) 72
    (fun x => x.1 ≤ es.length ∧ chkEds al n x.2 (es.drop x.1) = R ∧ ((x.1 = 0 ∧ x.2 = none) ∨ ∃ h : 0 < x.1 ∧ x.1 - 1 < es.length, x.2 = some (es[x.1 - 1]'h.2))) (fun x => es.length - x.1) (0, none) ⟨Nat.zero_le _, hR, .inl ⟨rfl, rfl⟩⟩ ⟨rfl, rfl, rfl, rfl, trivial⟩ rfl ⟨rfl, trivial⟩ rfl rfl ?_
  rintro ⟨i, prev⟩ ⟨hi, hno, hp⟩ ih
  simp only at hi hno hp
  clear hR
  refine g_run Tk Tryd.func160 ?_
  first | refine g_cnd Tk Tryd.func160 rfl (fun g1 => ?_) (fun g1 => ?_) | refine g_know Tk Tryd.func160 rfl (fun g1 => ?_) (fun g1 => ?_) | refine s_know Tk (fun g1 => ?_) (fun g1 => ?_)
  · have h1 : i < es.length := by simpa using g1
    have ge : (es.map edgI)[(i : Int).toNat]? = some (edgI es[i]) := get_mapZ h1
    have dl : es.drop i = es[i] :: es.drop (i + 1) := List.drop_eq_getElem_cons h1
    rw [dl] at hno
    simp only [chkEds] at hno
    clear dl
    have hi1 : ii (IntKind.i64.wrap ((i : Int) + 1)) = ii ((i + 1 : Nat) : Int) := congrArg ii (wsucc h1 hl)
    have hnext : (i + 1 = 0 ∧ some es[i] = none) ∨ ∃ h : 0 < i + 1 ∧ i + 1 - 1 < es.length, some es[i] = some (es[i + 1 - 1]'h.2) := .inr ⟨⟨by omega, by omega⟩, rfl⟩
    have hcn := contains110 (l := al) (x := es[i].2.1) (hl := hal)
    generalize hx : es[i] = x at *
    obtain ⟨xf, xe, xt⟩ := x
    simp only at hno hcn
    first | refine g_need Tk Tryd.func160 (by exact ⟨by omega, by show (i : Int) < (es.length : Int); omega⟩) ?_ | refine s_need Tk (by exact ⟨by omega, by show (i : Int) < (es.length : Int); omega⟩) ?_
    first | refine g_elem Tk Tryd.func160 (ge) ?_ | refine s_elem Tk (ge) ?_
    first | refine g_cnd Tk Tryd.func160 rfl (fun c1 => ?_) (fun c1 => ?_) | refine g_know Tk Tryd.func160 rfl (fun c1 => ?_) (fun c1 => ?_) | refine s_know Tk (fun c1 => ?_) (fun c1 => ?_)
    · have c1 : xf < 0 := of_decide_eq_true c1
      rw [if_pos (.inl c1)] at hno
      subst hno
      repeat (first | refine g_cnd Tk Tryd.func160 rfl (fun _ => ?_) (fun h => absurd h (by decide)) | refine g_know Tk Tryd.func160 rfl (fun _ => ?_) (fun h => absurd h (by decide)) | refine s_know Tk (fun _ => ?_) (fun h => absurd h (by decide)) | refine g_cnd Tk Tryd.func160 rfl (fun h => absurd h (by decide)) (fun _ => ?_) | refine g_know Tk Tryd.func160 rfl (fun h => absurd h (by decide)) (fun _ => ?_) | refine s_know Tk (fun h => absurd h (by decide)) (fun _ => ?_) | refine g_cnd Tk Tryd.func160 rfl (fun _ => ?_) (fun h => absurd (show true = false from h) (by decide)) | refine g_know Tk Tryd.func160 rfl (fun _ => ?_) (fun h => absurd (show true = false from h) (by decide)) | refine s_know Tk (fun _ => ?_) (fun h => absurd (show true = false from h) (by decide)) | refine g_cnd Tk Tryd.func160 rfl (fun h => absurd (show false = true from h) (by decide)) (fun _ => ?_) | refine g_know Tk Tryd.func160 rfl (fun h => absurd (show false = true from h) (by decide)) (fun _ => ?_) | refine s_know Tk (fun h => absurd (show false = true from h) (by decide)) (fun _ => ?_))
      refine g_ret Tk (r := ii 2) rfl rfl rfl trivial rfl rfl ?_
      rfl
    have c1 : ¬ xf < 0 := of_decide_eq_false c1
    first | refine g_cnd Tk Tryd.func160 rfl (fun c2 => ?_) (fun c2 => ?_) | refine g_know Tk Tryd.func160 rfl (fun c2 => ?_) (fun c2 => ?_) | refine s_know Tk (fun c2 => ?_) (fun c2 => ?_)
    · have c2 : xf ≥ n := of_decide_eq_true c2
      rw [if_pos (.inr (.inl c2))] at hno
      subst hno
      repeat (first | refine g_cnd Tk Tryd.func160 rfl (fun _ => ?_) (fun h => absurd h (by decide)) | refine g_know Tk Tryd.func160 rfl (fun _ => ?_) (fun h => absurd h (by decide)) | refine s_know Tk (fun _ => ?_) (fun h => absurd h (by decide)) | refine g_cnd Tk Tryd.func160 rfl (fun h => absurd h (by decide)) (fun _ => ?_) | refine g_know Tk Tryd.func160 rfl (fun h => absurd h (by decide)) (fun _ => ?_) | refine s_know Tk (fun h => absurd h (by decide)) (fun _ => ?_) | refine g_cnd Tk Tryd.func160 rfl (fun _ => ?_) (fun h => absurd (show true = false from h) (by decide)) | refine g_know Tk Tryd.func160 rfl (fun _ => ?_) (fun h => absurd (show true = false from h) (by decide)) | refine s_know Tk (fun _ => ?_) (fun h => absurd (show true = false from h) (by decide)) | refine g_cnd Tk Tryd.func160 rfl (fun h => absurd (show false = true from h) (by decide)) (fun _ => ?_) | refine g_know Tk Tryd.func160 rfl (fun h => absurd (show false = true from h) (by decide)) (fun _ => ?_) | refine s_know Tk (fun h => absurd (show false = true from h) (by decide)) (fun _ => ?_))
      refine g_ret Tk (r := ii 2) rfl rfl rfl trivial rfl rfl ?_
      rfl
    have c2 : ¬ xf ≥ n := of_decide_eq_false c2
    first | refine g_cnd Tk Tryd.func160 rfl (fun c3 => ?_) (fun c3 => ?_) | refine g_know Tk Tryd.func160 rfl (fun c3 => ?_) (fun c3 => ?_) | refine s_know Tk (fun c3 => ?_) (fun c3 => ?_)
    · have c3 : xt < 0 := of_decide_eq_true c3
      rw [if_pos (.inr (.inr (.inl c3)))] at hno
      subst hno
      repeat (first | refine g_cnd Tk Tryd.func160 rfl (fun _ => ?_) (fun h => absurd h (by decide)) | refine g_know Tk Tryd.func160 rfl (fun _ => ?_) (fun h => absurd h (by decide)) | refine s_know Tk (fun _ => ?_) (fun h => absurd h (by decide)) | refine g_cnd Tk Tryd.func160 rfl (fun h => absurd h (by decide)) (fun _ => ?_) | refine g_know Tk Tryd.func160 rfl (fun h => absurd h (by decide)) (fun _ => ?_) | refine s_know Tk (fun h => absurd h (by decide)) (fun _ => ?_) | refine g_cnd Tk Tryd.func160 rfl (fun _ => ?_) (fun h => absurd (show true = false from h) (by decide)) | refine g_know Tk Tryd.func160 rfl (fun _ => ?_) (fun h => absurd (show true = false from h) (by decide)) | refine s_know Tk (fun _ => ?_) (fun h => absurd (show true = false from h) (by decide)) | refine g_cnd Tk Tryd.func160 rfl (fun h => absurd (show false = true from h) (by decide)) (fun _ => ?_) | refine g_know Tk Tryd.func160 rfl (fun h => absurd (show false = true from h) (by decide)) (fun _ => ?_) | refine s_know Tk (fun h => absurd (show false = true from h) (by decide)) (fun _ => ?_))
      refine g_ret Tk (r := ii 2) rfl rfl rfl trivial rfl rfl ?_
      rfl
    have c3 : ¬ xt < 0 := of_decide_eq_false c3
    first | refine g_cnd Tk Tryd.func160 rfl (fun c4 => ?_) (fun c4 => ?_) | refine g_know Tk Tryd.func160 rfl (fun c4 => ?_) (fun c4 => ?_) | refine s_know Tk (fun c4 => ?_) (fun c4 => ?_)
    · have c4 : xt ≥ n := of_decide_eq_true c4
      rw [if_pos (.inr (.inr (.inr c4)))] at hno
      subst hno
      refine g_ret Tk (r := ii 2) rfl rfl rfl trivial rfl rfl ?_
      rfl
    have c4 : ¬ xt ≥ n := of_decide_eq_false c4
    rw [if_neg (by omega)] at hno
    first | refine g_call Tk Tryd.func160 (hcn _) rfl rfl rfl rfl rfl ?_ | refine s_callq Tk (fun _ => hcn _) rfl rfl rfl ?_
    first | refine g_cnd Tk Tryd.func160 rfl (fun c5 => ?_) (fun c5 => ?_) | refine g_know Tk Tryd.func160 rfl (fun c5 => ?_) (fun c5 => ?_) | refine s_know Tk (fun c5 => ?_) (fun c5 => ?_)
    · have c5 : decide (xe ∈ al) = false := notT c5
      have c5 : xe ∉ al := of_decide_eq_false c5
      rw [if_pos c5] at hno
      subst hno
      refine g_ret Tk (r := ii 9) rfl rfl rfl trivial rfl rfl ?_
      rfl
    have c5 : decide (xe ∈ al) = true := notF c5
    have c5 : xe ∈ al := of_decide_eq_true c5
    rw [if_neg (by simpa using c5)] at hno
    rcases hp with ⟨h0, hpr⟩ | ⟨hp1, hpr⟩
    · rw [hpr, if_neg (by simp)] at hno
      first | refine g_cnd Tk Tryd.func160 rfl (fun c6 => ?_) (fun c6 => ?_) | refine g_know Tk Tryd.func160 rfl (fun c6 => ?_) (fun c6 => ?_) | refine s_know Tk (fun c6 => ?_) (fun c6 => ?_)
      rotate_left
      · have c6 : (i : Int) ≠ 0 := beqF c6
        omega
      refine g_loop ?_
      exact ih (i + 1, some (xf, xe, xt)) _ _ ⟨h1, hno, hnext⟩ (by simp only; omega) ⟨rfl, rfl, rfl, hi1, trivial⟩ rfl ⟨rfl, trivial⟩ rfl rfl
    · have gp : (es.map edgI)[(IntKind.i64.wrap ((i : Int) - 1)).toNat]? = some (edgI (es[i - 1]'hp1.2)) := by
        rw [w64 (by omega) (by simp only [max63] at hl; omega), show ((i : Int) - 1).toNat = i - 1 by omega]
        rw [List.getElem?_map, List.getElem?_eq_getElem hp1.2]
        rfl
      have hwp : IntKind.i64.wrap ((i : Int) - 1) = (i : Int) - 1 := w64 (by omega) (by simp only [max63] at hl; omega)
      rw [hpr] at hno
      generalize es[i - 1]'hp1.2 = y at *
      obtain ⟨yf, ye, yt⟩ := y
      simp only [Option.any_some, decide_eq_true_eq] at hno
      first | refine g_cnd Tk Tryd.func160 rfl (fun c6 => ?_) (fun c6 => ?_) | refine g_know Tk Tryd.func160 rfl (fun c6 => ?_) (fun c6 => ?_) | refine s_know Tk (fun c6 => ?_) (fun c6 => ?_)
      · have c6 : (i : Int) = 0 := beqT c6
        omega
      first | refine g_need Tk Tryd.func160 (by rw [hwp]; exact ⟨by omega, by show (i : Int) - 1 < (es.length : Int); omega⟩) ?_ | refine s_need Tk (by rw [hwp]; exact ⟨by omega, by show (i : Int) - 1 < (es.length : Int); omega⟩) ?_
      first | refine g_elem Tk Tryd.func160 (gp) ?_ | refine s_elem Tk (gp) ?_
      first | refine g_cnd Tk Tryd.func160 rfl (fun c7 => ?_) (fun c7 => ?_) | refine g_know Tk Tryd.func160 rfl (fun c7 => ?_) (fun c7 => ?_) | refine s_know Tk (fun c7 => ?_) (fun c7 => ?_)
      · have c7 : xf < yf := of_decide_eq_true c7
        rw [if_pos (.inl c7)] at hno
        subst hno
        repeat (first | refine g_cnd Tk Tryd.func160 rfl (fun _ => ?_) (fun h => absurd h (by decide)) | refine g_know Tk Tryd.func160 rfl (fun _ => ?_) (fun h => absurd h (by decide)) | refine s_know Tk (fun _ => ?_) (fun h => absurd h (by decide)) | refine g_cnd Tk Tryd.func160 rfl (fun h => absurd h (by decide)) (fun _ => ?_) | refine g_know Tk Tryd.func160 rfl (fun h => absurd h (by decide)) (fun _ => ?_) | refine s_know Tk (fun h => absurd h (by decide)) (fun _ => ?_) | refine g_cnd Tk Tryd.func160 rfl (fun _ => ?_) (fun h => absurd (show true = false from h) (by decide)) | refine g_know Tk Tryd.func160 rfl (fun _ => ?_) (fun h => absurd (show true = false from h) (by decide)) | refine s_know Tk (fun _ => ?_) (fun h => absurd (show true = false from h) (by decide)) | refine g_cnd Tk Tryd.func160 rfl (fun h => absurd (show false = true from h) (by decide)) (fun _ => ?_) | refine g_know Tk Tryd.func160 rfl (fun h => absurd (show false = true from h) (by decide)) (fun _ => ?_) | refine s_know Tk (fun h => absurd (show false = true from h) (by decide)) (fun _ => ?_))
        refine g_ret Tk (r := ii 5) rfl rfl rfl trivial rfl rfl ?_
        rfl
      have c7 : ¬ xf < yf := of_decide_eq_false c7
      first | refine g_cnd Tk Tryd.func160 rfl (fun c8 => ?_) (fun c8 => ?_) | refine g_know Tk Tryd.func160 rfl (fun c8 => ?_) (fun c8 => ?_) | refine s_know Tk (fun c8 => ?_) (fun c8 => ?_)
      · have c8 : xf = yf := beqT c8
        first | refine g_cnd Tk Tryd.func160 rfl (fun c9 => ?_) (fun c9 => ?_) | refine g_know Tk Tryd.func160 rfl (fun c9 => ?_) (fun c9 => ?_) | refine s_know Tk (fun c9 => ?_) (fun c9 => ?_)
        · have c9 : xe ≤ ye := of_decide_eq_true c9
          rw [if_pos (.inr ⟨c8, c9⟩)] at hno
          subst hno
          refine g_ret Tk (r := ii 5) rfl rfl rfl trivial rfl rfl ?_
          rfl
        · have c9 : ¬ xe ≤ ye := of_decide_eq_false c9
          rw [if_neg (by omega)] at hno
          refine g_loop ?_
          exact ih (i + 1, some (xf, xe, xt)) _ _ ⟨h1, hno, hnext⟩ (by simp only; omega) ⟨rfl, rfl, rfl, hi1, trivial⟩ rfl ⟨rfl, trivial⟩ rfl rfl
      · have c8 : xf ≠ yf := beqF c8
        rw [if_neg (by omega)] at hno
        repeat (first | refine g_cnd Tk Tryd.func160 rfl (fun _ => ?_) (fun h => absurd h (by decide)) | refine g_know Tk Tryd.func160 rfl (fun _ => ?_) (fun h => absurd h (by decide)) | refine s_know Tk (fun _ => ?_) (fun h => absurd h (by decide)) | refine g_cnd Tk Tryd.func160 rfl (fun h => absurd h (by decide)) (fun _ => ?_) | refine g_know Tk Tryd.func160 rfl (fun h => absurd h (by decide)) (fun _ => ?_) | refine s_know Tk (fun h => absurd h (by decide)) (fun _ => ?_) | refine g_cnd Tk Tryd.func160 rfl (fun _ => ?_) (fun h => absurd (show true = false from h) (by decide)) | refine g_know Tk Tryd.func160 rfl (fun _ => ?_) (fun h => absurd (show true = false from h) (by decide)) | refine s_know Tk (fun _ => ?_) (fun h => absurd (show true = false from h) (by decide)) | refine g_cnd Tk Tryd.func160 rfl (fun h => absurd (show false = true from h) (by decide)) (fun _ => ?_) | refine g_know Tk Tryd.func160 rfl (fun h => absurd (show false = true from h) (by decide)) (fun _ => ?_) | refine s_know Tk (fun h => absurd (show false = true from h) (by decide)) (fun _ => ?_))
        refine g_loop ?_
        exact ih (i + 1, some (xf, xe, xt)) _ _ ⟨h1, hno, hnext⟩ (by simp only; omega) ⟨rfl, rfl, rfl, hi1, trivial⟩ rfl ⟨rfl, trivial⟩ rfl rfl
  · have h1 : es.length ≤ i := by simpa using g1
    rw [List.drop_eq_nil_of_le h1] at hno
    simp only [chkEds] at hno
    subst hno
    refine g_ret Tk (r := ii 0) rfl rfl rfl trivial rfl rfl ?_
    rfl
theorem check116 (O : List Heap) (a : Aut) (hl : a.edges.length ≤ max63) (hal : a.alpha.length ≤ max63) (hmk : a.marked.length ≤ max63) : ASpec Tryd.prog 116 [autD a] O (ii (chkA a)) [] O := by
  have h1 := fun O => checkSet159 O a.alpha 32 hal
  have h2 := fun O => checkSet159 O a.marked a.states hmk
  have h3 := fun O => checkEdges160 O a hl hal
  generalize hR : chkA a = R
  unfold chkA at hR
  generalize checkSet 32 a.alpha none = e1 at *
  generalize checkSet a.states a.marked none = e2 at *
  generalize chkEds a.alpha a.states none a.edges = e3 at *
  obtain ⟨al, n, mk, es⟩ := a
  simp only at hR h1 h2 h3
  refine aspec_intro Tk Tryd.func116 rfl Tryd.call116 Tryd.ntmps116 (Nat.le_of_ble_eq_true rfl) fun E => ?_
  refine g_run Tk Tryd.func116 ?_
  first | refine g_call Tk Tryd.func116 (h1 _) rfl rfl rfl rfl rfl ?_ | refine s_callq Tk (fun _ => h1 _) rfl rfl rfl ?_
  first | refine g_cnd Tk Tryd.func116 rfl (fun c1 => ?_) (fun c1 => ?_) | refine g_know Tk Tryd.func116 rfl (fun c1 => ?_) (fun c1 => ?_) | refine s_know Tk (fun c1 => ?_) (fun c1 => ?_)
  · have c1 : e1 ≠ 0 := bneT c1
    rw [if_pos c1] at hR
    subst hR
    refine g_ret Tk (r := ii e1) rfl rfl rfl trivial rfl rfl ?_
    rfl
  have c1 : e1 = 0 := bneF c1
  rw [if_neg (by simpa using c1)] at hR
  first | refine g_cnd Tk Tryd.func116 rfl (fun c2 => ?_) (fun c2 => ?_) | refine g_know Tk Tryd.func116 rfl (fun c2 => ?_) (fun c2 => ?_) | refine s_know Tk (fun c2 => ?_) (fun c2 => ?_)
  · have c2 : n < 0 := of_decide_eq_true c2
    rw [if_pos c2] at hR
    subst hR
    refine g_ret Tk (r := ii 2) rfl rfl rfl trivial rfl rfl ?_
    rfl
  have c2 : ¬ n < 0 := of_decide_eq_false c2
  rw [if_neg c2] at hR
  first | refine g_cnd Tk Tryd.func116 rfl (fun c3 => ?_) (fun c3 => ?_) | refine g_know Tk Tryd.func116 rfl (fun c3 => ?_) (fun c3 => ?_) | refine s_know Tk (fun c3 => ?_) (fun c3 => ?_)
  · have c3 : n > 4096 := of_decide_eq_true c3
    rw [if_pos c3] at hR
    subst hR
    refine g_ret Tk (r := ii 3) rfl rfl rfl trivial rfl rfl ?_
    rfl
  have c3 : ¬ n > 4096 := of_decide_eq_false c3
  rw [if_neg c3] at hR
  first | refine g_call Tk Tryd.func116 (h2 _) rfl rfl rfl rfl rfl ?_ | refine s_callq Tk (fun _ => h2 _) rfl rfl rfl ?_
  first | refine g_cnd Tk Tryd.func116 rfl (fun c4 => ?_) (fun c4 => ?_) | refine g_know Tk Tryd.func116 rfl (fun c4 => ?_) (fun c4 => ?_) | refine s_know Tk (fun c4 => ?_) (fun c4 => ?_)
  · have c4 : e2 ≠ 0 := bneT c4
    rw [if_pos c4] at hR
    subst hR
    refine g_ret Tk (r := ii e2) rfl rfl rfl trivial rfl rfl ?_
    rfl
  have c4 : e2 = 0 := bneF c4
  rw [if_neg (by simpa using c4)] at hR
  subst hR
  first | refine g_call Tk Tryd.func116 (h3 _) rfl rfl rfl rfl rfl ?_ | refine s_callq Tk (fun _ => h3 _) rfl rfl rfl ?_
  refine g_ret Tk (r := ii e3) rfl rfl rfl trivial rfl rfl ?_
  rfl
end Go.AI


/- Automata: what is canonical. -/
namespace Go.AI
open Go.Proofs
set_option maxRecDepth 20000
/-- Numbers of the first k of n states. -/
def numI (n k : Nat) : List Int := (List.range n).map fun j => if j < k then (j : Int) else -1
def iniI (n k : Nat) : List Int := (List.range n).map fun j => if j < k then (-1 : Int) else 0
def ordI (k : Nat) : List Int := (List.range k).map fun (j : Nat) => (j : Int)
theorem ordI_len (k : Nat) : (ordI k).length = k := by simp [ordI]
theorem numI_len (n k : Nat) : (numI n k).length = n := by simp [numI]
theorem iniI_len (n k : Nat) : (iniI n k).length = n := by simp [iniI]
theorem ordI_succ (k : Nat) : ordI (k + 1) = ordI k ++ [(k : Int)] := by simp [ordI, List.range_succ]
theorem numI_set {n k : Nat} (h : k < n) : (numI n k).set k (k : Int) = numI n (k + 1) := by
  apply List.ext_getElem (by simp [numI])
  intro i h1 h2
  rw [List.getElem_set]
  simp only [numI, List.getElem_map, List.getElem_range]
  by_cases e : k = i
  · subst e; rw [if_pos rfl, if_pos (by omega)]
  · rw [if_neg e]
    by_cases h3 : i < k
    · rw [if_pos h3, if_pos (by omega)]
    · rw [if_neg h3, if_neg (by omega)]
theorem iniI_set {n k : Nat} (h : k < n) : (iniI n k).set k (-1) = iniI n (k + 1) := by
  apply List.ext_getElem (by simp [iniI])
  intro i h1 h2
  rw [List.getElem_set]
  simp only [iniI, List.getElem_map, List.getElem_range]
  by_cases e : k = i
  · subst e; rw [if_pos rfl, if_pos (by omega)]
  · rw [if_neg e]
    by_cases h3 : i < k
    · rw [if_pos h3, if_pos (by omega)]
    · rw [if_neg h3, if_neg (by omega)]
theorem iniI_all (n : Nat) : iniI n n = numI n 0 := by
  apply List.ext_getElem (by simp [iniI, numI])
  intro i h1 h2
  simp only [iniI, numI, List.getElem_map, List.getElem_range]
  have : i < n := by simpa [iniI] using h1
  rw [if_pos this, if_neg (by omega)]
theorem numI_get {n k j : Nat} (h : j < n) : (numI n k)[j]? = some (if j < k then (j : Int) else -1) := by
  rw [List.getElem?_eq_getElem (by rw [numI_len]; exact h)]
  simp [numI]
theorem ordI_get {k j : Nat} (h : j < k) : (ordI k)[j]? = some (j : Int) := by
  rw [List.getElem?_eq_getElem (by rw [ordI_len]; exact h)]
  simp [ordI]
theorem oints_set13 (l : List Int) (i : Nat) (x : Int) : Ob.arr 3 1 l.length ((l.map fun x => [vi x]).set i [vi x]) true = oints (l.set i x) := by
  simp [oints, List.map_set]
theorem ini0 (n : Nat) : Ob.arr 3 1 n (List.replicate n [vi 0]) true = oints (iniI n 0) := by
  have e : iniI n 0 = List.replicate n 0 := by
    apply List.ext_getElem (by simp [iniI])
    intro i h1 h2
    simp [iniI]
  rw [e]
  simp [oints]
abbrev zBox : Ob := .box [.i (.v (.slice none 0 0)), ii 0, .i (.v (.slice none 0 0)), .i (.v (.slice none 0 0))]
set_option maxHeartbeats 4000000 in
theorem canonical125 (O : List Heap) (a : Aut) (n : Nat) (hn : a.states = n) (hn1 : 1 ≤ n) (hn2 : n ≤ 4096) (hc : chkA a = 0) (hk : kOf a.edges 1 = some n) (hl : a.edges.length ≤ 1000000) (hal : a.alpha.length ≤ 1000000) (hmk : a.marked.length ≤ 1000000) : ASpec Tryd.prog 125 [autD a] O (autD a) [] O := by
  have hcl := fun O => clone84 O a.alpha (by simp only [big]; omega)
  have hc2 : checkSet a.states a.marked none = 0 ∧ chkEds a.alpha a.states none a.edges = 0 := by
    unfold chkA at hc
    by_cases h1 : checkSet 32 a.alpha none ≠ 0
    · rw [if_pos h1] at hc; exact absurd hc h1
    rw [if_neg h1] at hc
    by_cases h2 : a.states < 0
    · omega
    rw [if_neg h2] at hc
    by_cases h3 : a.states > 4096
    · omega
    rw [if_neg h3] at hc
    by_cases h4 : checkSet a.states a.marked none ≠ 0
    · rw [if_pos h4] at hc; exact absurd hc h4
    rw [if_neg h4] at hc
    exact ⟨by simpa using h4, hc⟩
  obtain ⟨ms, mb, _⟩ := checkSet_sorted hc2.1
  obtain ⟨es1, eb, _⟩ := chkEds_sorted hc2.2
  have hso := sortedF_of es1
  have hout := fun O s hs => out163 O a s (by simp only [max63]; omega) hso (fun e he => by have := (eb e he).1; omega) hs
  have hbs := fun O x => bsearch65 O a.marked x (by simp only [max63]; omega) ms
  clear hc hc2 es1
  obtain ⟨al, st, mk, es⟩ := a
  simp only at *
  subst hn
  refine aspec_stop [18, 24] Tk Tryd.func125 rfl Tryd.call125 Tryd.ntmps125 (Nat.le_of_ble_eq_true rfl) fun E => ?_
  refine g_run Tk Tryd.func125 ?_
  first | refine g_call Tk Tryd.func125 (hcl _) rfl rfl rfl rfl rfl ?_ | refine s_callq Tk (fun _ => hcl _) rfl rfl rfl ?_
  first | refine g_cnd Tk Tryd.func125 rfl (fun c0 => ?_) (fun c0 => ?_) | refine g_know Tk Tryd.func125 rfl (fun c0 => ?_) (fun c0 => ?_) | refine s_know Tk (fun c0 => ?_) (fun c0 => ?_)
  · have c0 : (n : Int) = 0 := beqT c0
    omega
  clear c0
  first | refine g_need Tk Tryd.func125 (by show 0 ≤ (n : Int) ∧ (n : Int) ≤ n ∧ (n : Int) * 8 ≤ 140737488355328 ∧ (n : Int) ≤ 140737488355328; omega) ?_ | refine s_need Tk (by show 0 ≤ (n : Int) ∧ (n : Int) ≤ n ∧ (n : Int) * 8 ≤ 140737488355328 ∧ (n : Int) ≤ 140737488355328; omega) ?_
  refine g_loop ?_
  refine rch_loop2 (fun i : Nat => [(1, .own 0 1 0 0), (2, .own 0 2 0 0), (3, .own 0 3 0 0), (4, .osl 0 22), (24, ii n), (25, ii i)]) (fun i => [(1, .box [ints al, ii n, ints mk, edgs es]), (2, zBox), (3, .box [ints al, ii 0, .i (.v (.slice none 0 0)), .i (.v (.slice none 0 0))]), (22, oints (iniI n i))]) (fun _ => O) 105
    (fun i => i ≤ n) (fun i => n - i) 0 (Nat.zero_le _) ⟨rfl, rfl, rfl, rfl, rfl, rfl, trivial⟩ rfl ⟨rfl, rfl, rfl, congrArg some (ini0 n), trivial⟩ rfl rfl ?_
  intro i hi ih
  refine g_run Tk Tryd.func125 ?_
  first | refine g_cnd Tk Tryd.func125 rfl (fun g1 => ?_) (fun g1 => ?_) | refine g_know Tk Tryd.func125 rfl (fun g1 => ?_) (fun g1 => ?_) | refine s_know Tk (fun g1 => ?_) (fun g1 => ?_)
  · have h1 : i < n := by simpa using g1
    have hil := iniI_len n i
    first | refine g_need Tk Tryd.func125 (by exact ⟨by omega, by show (i : Int) < ((iniI n i).length : Int); omega⟩) ?_ | refine s_need Tk (by exact ⟨by omega, by show (i : Int) < ((iniI n i).length : Int); omega⟩) ?_
    refine g_loop ?_
    refine ih (i + 1) _ _ h1 (by omega) ⟨rfl, rfl, rfl, rfl, rfl, congrArg ii (wsucc (n := 4096) (by omega) (by decide)), trivial⟩ rfl ⟨rfl, rfl, rfl, ?_, trivial⟩ rfl rfl
    have h := oints_set13 (iniI n i) i (-1)
    rw [iniI_set h1] at h
    exact congrArg some h
  have hin : n = i := by
    have : ¬ (i : Int) < (n : Int) := of_decide_eq_false g1
    omega
  subst hin
  clear ih g1 hi
  have hil := iniI_len n n
  first | refine g_need Tk Tryd.func125 (by exact ⟨by decide, by show (0 : Int) < ((iniI n n).length : Int); omega⟩) ?_ | refine s_need Tk (by exact ⟨by decide, by show (0 : Int) < ((iniI n n).length : Int); omega⟩) ?_
  have hm0 : ∀ x ∈ mk, 0 ≤ x := fun x hx => (mb x hx).1
  have hl0 : lowE es 0 = 0 := lowE_zero fun x hx => (eb x hx).1.1
  have hz : some (Ob.arr 3 1 (iniI n n).length (((iniI n n).map fun x => [vi x]).set 0 [vi 0]) true) = some (oints (numI n 1)) := by
    rw [oints_set13, iniI_all]
    have h := numI_set (n := n) (k := 0) hn1
    have h : (numI n 0).set 0 0 = numI n 1 := h
    rw [h]
  refine g_loop ?_
  refine rch_wk (wk_ren 34 85 rfl rfl rfl) ?_
  refine rch_wk (wk_nilbox2 3 56 3 1 (pre := [ints al, ii 0]) (post := [.i (.v (.slice none 0 0))]) rfl rfl rfl) ?_
  refine rch_wk (wk_nilbox2 3 98 124 3 (pre := [ints al, ii 0, .osl 0 56]) (post := []) rfl rfl rfl) ?_
  refine rch_loop2 (fun x : Nat × Nat => [(1, .own 0 1 0 0), (2, .own 0 2 0 0), (3, .own 0 3 0 0), (4, .osl 0 22), (6, .osl 0 85), (7, ii x.1)]) (fun x => [(1, .box [ints al, ii n, ints mk, edgs es]), (2, zBox), (3, .box [ints al, ii 0, .osl 0 56, .osl 0 98]), (22, oints (numI n x.2)), (85, oints (ordI x.2)), (56, oints (mk.filter fun y => decide (y < ((x.1 : Nat) : Int)))), (98, oedgs (es.take (lowE es x.1)))]) (fun _ => O) 105
    (fun x => x.1 ≤ x.2 ∧ 1 ≤ x.2 ∧ x.2 ≤ n ∧ kOf (es.take (lowE es x.1)) 1 = some x.2) (fun x => n - x.1) (0, 1) ⟨Nat.zero_le _, Nat.le_refl _, hn1, by show kOf (es.take (lowE es 0)) 1 = some 1; rw [hl0]; rfl⟩ ⟨rfl, rfl, rfl, rfl, rfl, rfl, trivial⟩ rfl ⟨rfl, rfl, rfl, hz, rfl, by show _ = some (oints (mk.filter fun y => decide (y < ((0 : Nat) : Int)))); rw [filter_zero hm0]; rfl, by show _ = some (oedgs (es.take (lowE es 0))); rw [hl0]; rfl, trivial⟩ rfl rfl ?_
  clear hz hil hcl
  rintro ⟨i, k⟩ ⟨hi, hk1, hkn, hkk⟩ ih
  simp only at hi hk1 hkn hkk
  have hol := ordI_len k
  refine g_run Tk Tryd.func125 ?_
  first | refine g_cnd Tk Tryd.func125 rfl (fun g1 => ?_) (fun g1 => ?_) | refine g_know Tk Tryd.func125 rfl (fun g1 => ?_) (fun g1 => ?_) | refine s_know Tk (fun g1 => ?_) (fun g1 => ?_)
  · have h1 : i < k := by
      have : (i : Int) < ((ordI k).length : Int) := of_decide_eq_true g1
      omega
    clear g1
    have go : ((ordI k).map fun x => [vi x])[(i : Int).toNat]? = some [vi (i : Int)] := by
      rw [List.getElem?_map, show (i : Int).toNat = i by omega, ordI_get h1]
      rfl
    have n1 : 0 ≤ (i : Int) ∧ (i : Int) < ((ordI k).length : Int) := by omega
    have hbi := fun O => hbs O (i : Int)
    have hoi := fun O => hout O (i : Int) (by omega)
    have hmk3 := filter_lt_succ ms i
    refine g_drawn Tk Tryd.func125 mixedT rfl ?_
    first | refine g_need Tk Tryd.func125 (by exact n1) ?_ | refine s_need Tk (by exact n1) ?_
    first | refine g_elem Tk Tryd.func125 (go) ?_ | refine s_elem Tk (go) ?_
    first | refine g_call Tk Tryd.func125 (hbi _) rfl rfl rfl rfl rfl ?_ | refine s_callq Tk (fun _ => hbi _) rfl rfl rfl ?_
    refine e_done Tk Tryd.func125 (by kernel_rfl) ?_
    apply join_p (P := True) (s6 := { σ := [(1, .own 0 1 0 0), (2, .own 0 2 0 0), (3, .own 0 3 0 0), (4, .osl 0 22), (6, .osl 0 85), (7, ii i)], S := [(1, .box [ints al, ii n, ints mk, edgs es]), (2, zBox), (3, .box [ints al, ii 0, .osl 0 56, .osl 0 98]), (22, oints (numI n k)), (85, oints (ordI k)), (56, oints (mk.filter fun y => decide (y < ((i + 1 : Nat) : Int)))), (98, oedgs (es.take (lowE es i)))] :: O, n := 105 })
    · intro J
      have hfl : (mk.filter fun y => decide (y < (i : Int))).length ≤ 1000000 := Nat.le_trans (List.length_filter_le _ _) hmk
      first | refine g_cnd Tk Tryd.func125 rfl (fun c1 => ?_) (fun c1 => ?_) | refine g_know Tk Tryd.func125 rfl (fun c1 => ?_) (fun c1 => ?_) | refine s_know Tk (fun c1 => ?_) (fun c1 => ?_)
      · have c1 : (i : Int) ∈ mk := of_decide_eq_true c1
        rw [if_pos c1] at hmk3
        first | refine g_need Tk Tryd.func125 (by exact ⟨by show ((mk.filter fun y => decide (y < (i : Int))).length + 1) * 8 ≤ 140737488355328; omega, by show (mk.filter fun y => decide (y < (i : Int))).length + 1 ≤ 9223372036854775807; omega⟩) ?_ | refine s_need Tk (by exact ⟨by show ((mk.filter fun y => decide (y < (i : Int))).length + 1) * 8 ≤ 140737488355328; omega, by show (mk.filter fun y => decide (y < (i : Int))).length + 1 ≤ 9223372036854775807; omega⟩) ?_
        refine g_stop ?_
        refine rch_meet (J trivial) ⟨rfl, rfl, rfl, rfl, rfl, rfl, trivial⟩ rfl ⟨rfl, rfl, rfl, rfl, rfl, ?_, rfl, trivial⟩ rfl rfl
        show _ = some (oints (mk.filter fun y => decide (y < ((i + 1 : Nat) : Int))))
        rw [hmk3]
        exact congrArg some (oints_app (mk.filter fun y => decide (y < (i : Int))) (i : Int))
      · have c1 : (i : Int) ∉ mk := of_decide_eq_false c1
        rw [if_neg c1, List.append_nil] at hmk3
        refine g_stop ?_
        refine rch_meet (J trivial) ⟨rfl, rfl, rfl, rfl, rfl, rfl, trivial⟩ rfl ⟨rfl, rfl, rfl, rfl, rfl, ?_, rfl, trivial⟩ rfl rfl
        show _ = some (oints (mk.filter fun y => decide (y < ((i + 1 : Nat) : Int))))
        rw [hmk3]
        rfl
    · intro _
      clear hmk3 hbi
      refine g_run Tk Tryd.func125 ?_
      refine g_go Tk Tryd.func125 ?_
      refine g_drawn Tk Tryd.func125 mixedT rfl ?_
      first | refine g_need Tk Tryd.func125 (by exact n1) ?_ | refine s_need Tk (by exact n1) ?_
      first | refine g_elem Tk Tryd.func125 (go) ?_ | refine s_elem Tk (go) ?_
      first | refine g_call Tk Tryd.func125 (hoi _) rfl rfl rfl rfl rfl ?_ | refine s_callq Tk (fun _ => hoi _) rfl rfl rfl ?_
      refine e_done Tk Tryd.func125 (by kernel_rfl) ?_
      generalize hM : (mk.filter fun y => decide (y < ((i + 1 : Nat) : Int))) = M
      refine g_loop ?_
      refine rch_loop2 (fun x : Nat × Nat => [(1, .own 0 1 0 0), (2, .own 0 2 0 0), (3, .own 0 3 0 0), (4, .osl 0 22), (6, .osl 0 85), (7, ii i), (63, edgs (outR es i)), (64, ii (outR es i).length), (65, ii x.1)]) (fun x => [(1, .box [ints al, ii n, ints mk, edgs es]), (2, zBox), (3, .box [ints al, ii 0, .osl 0 56, .osl 0 98]), (22, oints (numI n x.2)), (85, oints (ordI x.2)), (56, oints M), (98, oedgs (es.take (lowE es i + x.1)))]) (fun _ => O) 105
        (fun x => x.1 ≤ (outR es i).length ∧ i < x.2 ∧ x.2 ≤ n ∧ kOf (es.take (lowE es i + x.1)) 1 = some x.2) (fun x => (outR es i).length - x.1) (0, k) ⟨Nat.zero_le _, h1, hkn, hkk⟩ ⟨rfl, rfl, rfl, rfl, rfl, rfl, rfl, rfl, rfl, trivial⟩ rfl ⟨rfl, rfl, rfl, rfl, rfl, rfl, rfl, trivial⟩ rfl rfl ?_
      clear hkk hkn h1 go n1 hol hoi
      rintro ⟨j, q⟩ ⟨hj, hiq, hqn, hq⟩ ih2
      simp only at hj hiq hqn hq
      have hol := ordI_len q
      have hnl := numI_len n q
      have hol2 : (outR es i).length ≤ 1000000 := by rw [outR_len]; have := lowE_le es ((i : Int) + 1); omega
      refine g_run Tk Tryd.func125 ?_
      first | refine g_cnd Tk Tryd.func125 rfl (fun g2 => ?_) (fun g2 => ?_) | refine g_know Tk Tryd.func125 rfl (fun g2 => ?_) (fun g2 => ?_) | refine s_know Tk (fun g2 => ?_) (fun g2 => ?_)
      · have h3 : j < (outR es i).length := by simpa using g2
        clear g2
        have ge : ((outR es i).map edgI)[(j : Int).toNat]? = some (edgI (outR es i)[j]) := get_mapZ h3
        have hfx := outR_frm hso _ (List.getElem_mem h3)
        obtain ⟨hpj, hge⟩ := outR_get h3
        obtain ⟨hst, hk2⟩ := kOf_step hk hpj hq
        have hb2 := eb _ (List.getElem_mem hpj)
        have htk : es.take (lowE es i + (j + 1)) = es.take (lowE es i + j) ++ [es[lowE es i + j]] := by
          rw [show lowE es i + (j + 1) = lowE es i + j + 1 by omega]
          exact List.take_succ_eq_append_getElem hpj
        have hlt : (es.take (lowE es i + j)).length ≤ 1000000 := by rw [List.length_take]; omega
        rw [show lowE es (i : Int) + j + 1 = lowE es (i : Int) + (j + 1) by omega] at hk2
        rw [hge] at ge hfx
        generalize es[lowE es i + j] = x at *
        obtain ⟨xf, xe, xt⟩ := x
        simp only at hfx hst hk2 hb2
        obtain ⟨t, rfl⟩ : ∃ t : Nat, xt = (t : Int) := ⟨xt.toNat, by omega⟩
        have hj1 : ii (IntKind.i64.wrap ((j : Int) + 1)) = ii ((j + 1 : Nat) : Int) := congrArg ii (wsucc (n := 1000001) (by omega) (by decide))
        have htn : t < n := by omega
        have n3 : 0 ≤ ((t : Nat) : Int) ∧ ((t : Nat) : Int) < ((numI n q).length : Int) := by omega
        have gN : ∀ k, ((numI n k).map fun x => [vi x])[((t : Nat) : Int).toNat]? = some [vi (if t < k then (t : Int) else -1)] := fun k => by
          rw [List.getElem?_map, show ((t : Nat) : Int).toNat = t by omega, numI_get htn]
          rfl
        first | refine g_need Tk Tryd.func125 (by exact ⟨by omega, by show (j : Int) < ((outR es i).length : Int); omega⟩) ?_ | refine s_need Tk (by exact ⟨by omega, by show (j : Int) < ((outR es i).length : Int); omega⟩) ?_
        first | refine g_elem Tk Tryd.func125 (ge) ?_ | refine s_elem Tk (ge) ?_
        generalize hq2 : (if t = q then q + 1 else q) = q2
        have hq3 : kOf (es.take (lowE es (i : Int) + (j + 1))) 1 = some q2 ∧ i < q2 ∧ q2 ≤ n ∧ t < q2 := by
          by_cases htq : t = q
          · rw [if_pos htq] at hq2
            subst hq2
            rw [hk2, if_pos (by omega)]
            exact ⟨rfl, by omega, by omega, by omega⟩
          · rw [if_neg htq] at hq2
            subst hq2
            rw [hk2, if_neg (by omega)]
            exact ⟨rfl, by omega, by omega, by omega⟩
        apply join_p (P := True) (s6 := { σ := [(1, .own 0 1 0 0), (2, .own 0 2 0 0), (3, .own 0 3 0 0), (4, .osl 0 22), (6, .osl 0 85), (7, ii i), (11, .own 0 11 0 0), (63, edgs (outR es i)), (64, ii (outR es i).length), (65, ii j)], S := [(1, .box [ints al, ii n, ints mk, edgs es]), (2, zBox), (3, .box [ints al, ii 0, .osl 0 56, .osl 0 98]), (11, .box [ii xf, ii xe, ii (t : Int)]), (22, oints (numI n q2)), (85, oints (ordI q2)), (56, oints M), (98, oedgs (es.take (lowE es i + j)))] :: O, n := 105 })
        · intro J
          have gq := gN q
          by_cases htq : t = q
          · rw [if_pos htq] at hq2
            subst hq2
            rw [if_neg (by omega)] at gq
            first | refine g_need Tk Tryd.func125 (by exact n3) ?_ | refine s_need Tk (by exact n3) ?_
            first | refine g_elem Tk Tryd.func125 (gq) ?_ | refine s_elem Tk (gq) ?_
            repeat (first | refine g_cnd Tk Tryd.func125 rfl (fun _ => ?_) (fun h => absurd h (by decide)) | refine g_know Tk Tryd.func125 rfl (fun _ => ?_) (fun h => absurd h (by decide)) | refine s_know Tk (fun _ => ?_) (fun h => absurd h (by decide)) | refine g_cnd Tk Tryd.func125 rfl (fun h => absurd h (by decide)) (fun _ => ?_) | refine g_know Tk Tryd.func125 rfl (fun h => absurd h (by decide)) (fun _ => ?_) | refine s_know Tk (fun h => absurd h (by decide)) (fun _ => ?_) | refine g_cnd Tk Tryd.func125 rfl (fun _ => ?_) (fun h => absurd (show true = false from h) (by decide)) | refine g_know Tk Tryd.func125 rfl (fun _ => ?_) (fun h => absurd (show true = false from h) (by decide)) | refine s_know Tk (fun _ => ?_) (fun h => absurd (show true = false from h) (by decide)) | refine g_cnd Tk Tryd.func125 rfl (fun h => absurd (show false = true from h) (by decide)) (fun _ => ?_) | refine g_know Tk Tryd.func125 rfl (fun h => absurd (show false = true from h) (by decide)) (fun _ => ?_) | refine s_know Tk (fun h => absurd (show false = true from h) (by decide)) (fun _ => ?_))
            first | refine g_need Tk Tryd.func125 (by exact n3) ?_ | refine s_need Tk (by exact n3) ?_
            first | refine g_need Tk Tryd.func125 (by exact ⟨by show ((ordI q).length + 1) * 8 ≤ 140737488355328; omega, by show (ordI q).length + 1 ≤ 9223372036854775807; omega⟩) ?_ | refine s_need Tk (by exact ⟨by show ((ordI q).length + 1) * 8 ≤ 140737488355328; omega, by show (ordI q).length + 1 ≤ 9223372036854775807; omega⟩) ?_
            refine g_stop ?_
            refine rch_meet (J trivial) ⟨rfl, rfl, rfl, rfl, rfl, rfl, rfl, rfl, rfl, rfl, trivial⟩ rfl ⟨rfl, rfl, rfl, rfl, ?_, ?_, rfl, rfl, trivial⟩ rfl rfl
            · have h := oints_set13 (numI n q) t ((ordI q).length : Int)
              rw [hol, htq, numI_set (by omega)] at h
              rw [hol, htq]
              exact congrArg some h
            · have h := oints_app (ordI q) (t : Int)
              rw [htq, ← ordI_succ] at h
              rw [htq]
              exact congrArg some h
          · rw [if_neg htq] at hq2
            subst hq2
            rw [if_pos (by omega)] at gq
            first | refine g_need Tk Tryd.func125 (by exact n3) ?_ | refine s_need Tk (by exact n3) ?_
            first | refine g_elem Tk Tryd.func125 (gq) ?_ | refine s_elem Tk (gq) ?_
            first | refine g_cnd Tk Tryd.func125 rfl (fun c2 => ?_) (fun c2 => ?_) | refine g_know Tk Tryd.func125 rfl (fun c2 => ?_) (fun c2 => ?_) | refine s_know Tk (fun c2 => ?_) (fun c2 => ?_)
            · have c2 : ((t : Nat) : Int) < 0 := of_decide_eq_true c2
              omega
            refine g_stop ?_
            refine rch_meet (J trivial) ⟨rfl, rfl, rfl, rfl, rfl, rfl, rfl, rfl, rfl, rfl, trivial⟩ rfl ⟨rfl, rfl, rfl, rfl, rfl, rfl, rfl, rfl, trivial⟩ rfl rfl
        · intro _
          obtain ⟨hk3, hi3, hn3, ht3⟩ := hq3
          have gq := gN q2
          rw [if_pos ht3] at gq
          have hnl2 := numI_len n q2
          clear hq2 hq hk2 gN
          refine g_run Tk Tryd.func125 ?_
          refine g_go Tk Tryd.func125 ?_
          refine g_drawn Tk Tryd.func125 mixedT rfl ?_
          first | refine g_need Tk Tryd.func125 (by exact ⟨by omega, by show ((t : Nat) : Int) < ((numI n q2).length : Int); omega⟩) ?_ | refine s_need Tk (by exact ⟨by omega, by show ((t : Nat) : Int) < ((numI n q2).length : Int); omega⟩) ?_
          first | refine g_elem Tk Tryd.func125 (gq) ?_ | refine s_elem Tk (gq) ?_
          refine e_tail Tk Tryd.func125 ([12, 13, 14]) (by kernel_rfl) (by kernel_rfl) ?_
          generalize es.take (lowE es i + j) = E2 at *
          first | refine g_need Tk Tryd.func125 (by exact ⟨by show (E2.length + 1) * 24 ≤ 140737488355328; omega, by show E2.length + 1 ≤ 9223372036854775807; omega⟩) ?_ | refine s_need Tk (by exact ⟨by show (E2.length + 1) * 24 ≤ 140737488355328; omega, by show E2.length + 1 ≤ 9223372036854775807; omega⟩) ?_
          refine g_loop ?_
          refine ih2 (j + 1, q2) _ _ ⟨h3, hi3, hn3, hk3⟩ (by simp only; omega) ⟨rfl, rfl, rfl, rfl, rfl, rfl, rfl, rfl, hj1, trivial⟩ rfl ⟨rfl, rfl, rfl, rfl, rfl, rfl, ?_, trivial⟩ rfl rfl
          show _ = some (oedgs (es.take (lowE es i + (j + 1))))
          rw [htk, hfx]
          exact congrArg some (oedgs_app E2 ((i : Int), xe, (t : Int)))
      · have h3 : (outR es i).length ≤ j := by simpa using g2
        have hje : lowE es (i : Int) + j = lowE es ((i + 1 : Nat) : Int) := by
          have h := outR_len es (i : Int)
          have h' := lowE_mono hso (show (i : Int) ≤ (i : Int) + 1 by omega)
          have e : ((i + 1 : Nat) : Int) = (i : Int) + 1 := by omega
          rw [e]
          omega
        rw [hje] at hq
        refine g_loop ?_
        refine ih (i + 1, q) _ _ ⟨by simp only; omega, by simp only; omega, hqn, hq⟩ (by simp only; omega) ⟨rfl, rfl, rfl, rfl, rfl, congrArg ii (wsucc (n := 5000) (by omega) (by decide)), trivial⟩ rfl ⟨rfl, rfl, rfl, rfl, rfl, ?_, ?_, trivial⟩ rfl rfl
        · show some (oints M) = some (oints (mk.filter fun y => decide (y < ((i + 1 : Nat) : Int))))
          rw [hM]
        · show some (oedgs (es.take (lowE es i + j))) = some (oedgs (es.take (lowE es ((i + 1 : Nat) : Int))))
          rw [hje]
  · have hki : k = i := by
      have : ¬ (i : Int) < ((ordI k).length : Int) := of_decide_eq_false g1
      omega
    subst hki
    have hle : lowE es (k : Int) = es.length := by
      have h1 := lowE_le es (k : Int)
      rcases Nat.lt_or_eq_of_le h1 with h | h
      · have h2 := lowE_ge hso (Nat.le_refl _) h
        have h3 := (kOf_step hk h hkk).1.1.2
        omega
      · exact h
    rw [hle, List.take_length] at hkk
    rw [hk] at hkk
    obtain rfl : n = k := Option.some.inj hkk
    have hmf : (mk.filter fun y => decide (y < (n : Int))) = mk := filter_all fun x hx => (mb x hx).2
    refine g_rwk (wk_freeze 56 rfl rfl) ?_
    refine g_rwk (wk_freeze 98 rfl rfl) ?_
    refine g_rwk (wk_imm rfl) ?_
    refine g_ret Tk (r := .agg [ints al, ii (ordI n).length, ints (mk.filter fun y => decide (y < (n : Int))), edgs (es.take (lowE es n))]) rfl rfl rfl trivial rfl rfl ?_
    rw [hmf, hol, hle, List.take_length]
end Go.AI


/- The examples of the chapter (19). -/
namespace Go.AI
open Go.Proofs
set_option maxRecDepth 20000
def plusE (op n : Int) : Ex := .mk op 0 0 [nE, kE n]
def counter19 (g : Ex) : Ext := ⟨[0, 1], 1, 0, [], [nVr 2], [⟨0, 0, 0, g, [⟨0, plusE 2 1⟩]⟩, ⟨0, 1, 0, plusE 6 2, [⟨0, zeroE⟩]⟩]⟩
theorem plus103 (O : List Heap) (op n : Int) : ASpec Tryd.prog 103 [ii op, ii n] O (exA (plusE op n)) [] O := by
  refine aspec_intro Tk Tryd.func103 rfl Tryd.call103 Tryd.ntmps103 (Nat.le_of_ble_eq_true rfl) fun E => ?_
  refine g_run Tk Tryd.func103 ?_
  refine g_ret_co Tk (r := _) rfl rfl rfl trivial rfl rfl ?_
  repeat' (first | refine coD_tup ?_ | refine coD_agg ?_ | refine coD_i ?_ | refine CoDL.cons ?_ ?_ | exact CoDL.nil | exact coI_nil | refine coI_sl ?_ | refine CoLL.cons ?_ ?_ | exact CoLL.nil | refine CoL.cons ?_ ?_ | exact CoL.nil | exact CoI.refl _ | exact CoL.refl _ | exact CoLL.refl _ | exact CoDL.refl _ | exact CoD.refl _)
theorem counter102 (O : List Heap) (x : Ex) : ASpec Tryd.prog 102 [exA x] O (extD (counter19 x)) [] O := by
  have hp := fun op n O => plus103 O op n
  refine aspec_intro Tk Tryd.func102 rfl Tryd.call102 Tryd.ntmps102 (Nat.le_of_ble_eq_true rfl) fun E => ?_
  refine g_run Tk Tryd.func102 ?_
  refine g_drawn Tk Tryd.func102 mixedT rfl ?_
  first | refine g_call Tk Tryd.func102 (hp 2 1 _) rfl rfl rfl rfl rfl ?_ | refine s_callq Tk (fun _ => hp 2 1 _) rfl rfl rfl ?_
  first | refine g_call Tk Tryd.func102 (hp 6 2 _) rfl rfl rfl rfl rfl ?_ | refine s_callq Tk (fun _ => hp 6 2 _) rfl rfl rfl ?_
  refine s_put Tk rfl rfl rfl ?_
  refine e_done Tk Tryd.func102 (by kernel_rfl) ?_
  refine g_ret_co Tk (r := _) rfl rfl rfl trivial rfl rfl ?_
  repeat' (first | refine coD_tup ?_ | refine coD_agg ?_ | refine coD_i ?_ | refine CoDL.cons ?_ ?_ | exact CoDL.nil | exact coI_nil | refine coI_sl ?_ | refine CoLL.cons ?_ ?_ | exact CoLL.nil | refine CoL.cons ?_ ?_ | exact CoL.nil | exact CoI.refl _ | exact CoL.refl _ | exact CoLL.refl _ | exact CoDL.refl _ | exact CoD.refl _)
theorem plus_ok (op n : Int) : exOk (plusE op n) := exOk_two (exOk_leaf _ _ _) (exOk_leaf _ _ _)
theorem cnt19_ok {x : Ex} (hx : exOk x) : extOk (counter19 x) := by
  refine ⟨by simp [counter19, max63], by simp [counter19, max63], by simp [counter19, max63], fun v hv => ?_, by simp [counter19, max63], fun x hx => ?_⟩
  · simp only [counter19, List.mem_singleton] at hv
    subst hv
    show (1 : Nat) ≤ max63
    decide
  · simp only [counter19, List.mem_cons, List.mem_nil_iff, or_false] at hx
    rcases hx with rfl | rfl
    · refine ⟨by assumption, by simp [max63], fun u hu => ?_⟩
      simp only [List.mem_singleton] at hu
      subst hu
      exact plus_ok _ _
    · refine ⟨plus_ok _ _, by simp [max63], fun u hu => ?_⟩
      simp only [List.mem_singleton] at hu
      subst hu
      exact exOk_leaf _ _ _
def knU : Unf Sta := ⟨[⟨0, [0]⟩, ⟨0, [1]⟩, ⟨0, [2]⟩], [], [(0, 0, 1), (1, 0, 2), (2, 1, 0)]⟩
theorem unf_known : unfoldR (counter19 (plusE 8 2)) = .ok knU := by kernel_rfl
theorem unf_known2 : unfoldR (counter19 trueE) = .error 17 := by kernel_rfl
theorem where_known : whereR (counter19 (plusE 8 2)) knU.sts (plusE 6 2) = ([2], 0) := by kernel_rfl
theorem known48 {g : Nat} (hg : IsTab g) {ty : TypeId} {fr : Nat × Nat} (O : List Heap) : ASpecT g (ptab ty fr) Tryd.prog 48 [] O (bb true) [] O := by
  have hp := fun op n O => plus103 O op n
  have hc := fun x O => counter102 O x
  have hu := fun O => Unfold50 hg (ty := ty) (fr := fr) O (counter19 (plusE 8 2)) (cnt19_ok (plus_ok _ _))
  simp only [unf_known] at hu
  have hu2 := fun O => Unfold50 hg (ty := ty) (fr := fr) O (counter19 trueE) (cnt19_ok (exOk_two (exOk_leaf _ _ _) (exOk_leaf _ _ _)))
  simp only [unf_known2] at hu2
  have hw := fun O => where52 O (counter19 (plusE 8 2)) knU.sts (plusE 6 2) (cnt19_ok (plus_ok _ _)) (plus_ok _ _) (by decide) (by decide)
  simp only [where_known] at hw
  have ht := fun O => true42 O
  have hs := fun O => sameInts36 O [2] [2] (by decide)
  refine aspecT_stop [] Tk Tryd.func48 rfl Tryd.call48 Tryd.ntmps48 (Nat.le_of_ble_eq_true rfl) fun E hE => ?_
  refine g_run Tk Tryd.func48 ?_
  first | refine g_call Tk Tryd.func48 (hp 8 2 _) rfl rfl rfl rfl rfl ?_ | refine s_callq Tk (fun _ => hp 8 2 _) rfl rfl rfl ?_
  first | refine g_call Tk Tryd.func48 (hc (plusE 8 2) _) rfl rfl rfl rfl rfl ?_ | refine s_callq Tk (fun _ => hc (plusE 8 2) _) rfl rfl rfl ?_
  refine g_callT Tk Tryd.func48 hE (hu _) rfl rfl rfl rfl rfl rfl ?_
  first | refine g_call Tk Tryd.func48 (ht _) rfl rfl rfl rfl rfl ?_ | refine s_callq Tk (fun _ => ht _) rfl rfl rfl ?_
  first | refine g_call Tk Tryd.func48 (hc trueE _) rfl rfl rfl rfl rfl ?_ | refine s_callq Tk (fun _ => hc trueE _) rfl rfl rfl ?_
  refine g_callT Tk Tryd.func48 hE (hu2 _) rfl rfl rfl rfl rfl rfl ?_
  first | refine g_call Tk Tryd.func48 (hp 8 2 _) rfl rfl rfl rfl rfl ?_ | refine s_callq Tk (fun _ => hp 8 2 _) rfl rfl rfl ?_
  first | refine g_call Tk Tryd.func48 (hc (plusE 8 2) _) rfl rfl rfl rfl rfl ?_ | refine s_callq Tk (fun _ => hc (plusE 8 2) _) rfl rfl rfl ?_
  first | refine g_call Tk Tryd.func48 (hp 6 2 _) rfl rfl rfl rfl rfl ?_ | refine s_callq Tk (fun _ => hp 6 2 _) rfl rfl rfl ?_
  first | refine g_call Tk Tryd.func48 (hw _) rfl rfl rfl rfl rfl ?_ | refine s_callq Tk (fun _ => hw _) rfl rfl rfl ?_
  repeat (first | refine g_cnd Tk Tryd.func48 rfl (fun _ => ?_) (fun h => absurd h (by decide)) | refine g_know Tk Tryd.func48 rfl (fun _ => ?_) (fun h => absurd h (by decide)) | refine s_know Tk (fun _ => ?_) (fun h => absurd h (by decide)) | refine g_cnd Tk Tryd.func48 rfl (fun h => absurd h (by decide)) (fun _ => ?_) | refine g_know Tk Tryd.func48 rfl (fun h => absurd h (by decide)) (fun _ => ?_) | refine s_know Tk (fun h => absurd h (by decide)) (fun _ => ?_) | refine g_cnd Tk Tryd.func48 rfl (fun _ => ?_) (fun h => absurd (show true = false from h) (by decide)) | refine g_know Tk Tryd.func48 rfl (fun _ => ?_) (fun h => absurd (show true = false from h) (by decide)) | refine s_know Tk (fun _ => ?_) (fun h => absurd (show true = false from h) (by decide)) | refine g_cnd Tk Tryd.func48 rfl (fun h => absurd (show false = true from h) (by decide)) (fun _ => ?_) | refine g_know Tk Tryd.func48 rfl (fun h => absurd (show false = true from h) (by decide)) (fun _ => ?_) | refine s_know Tk (fun h => absurd (show false = true from h) (by decide)) (fun _ => ?_))
  first | refine g_need Tk Tryd.func48 (by exact ⟨by decide, by decide⟩) ?_ | refine s_need Tk (by exact ⟨by decide, by decide⟩) ?_
  first | refine g_elem Tk Tryd.func48 (rfl) ?_ | refine s_elem Tk (rfl) ?_
  repeat (first | refine g_cnd Tk Tryd.func48 rfl (fun _ => ?_) (fun h => absurd h (by decide)) | refine g_know Tk Tryd.func48 rfl (fun _ => ?_) (fun h => absurd h (by decide)) | refine s_know Tk (fun _ => ?_) (fun h => absurd h (by decide)) | refine g_cnd Tk Tryd.func48 rfl (fun h => absurd h (by decide)) (fun _ => ?_) | refine g_know Tk Tryd.func48 rfl (fun h => absurd h (by decide)) (fun _ => ?_) | refine s_know Tk (fun h => absurd h (by decide)) (fun _ => ?_) | refine g_cnd Tk Tryd.func48 rfl (fun _ => ?_) (fun h => absurd (show true = false from h) (by decide)) | refine g_know Tk Tryd.func48 rfl (fun _ => ?_) (fun h => absurd (show true = false from h) (by decide)) | refine s_know Tk (fun _ => ?_) (fun h => absurd (show true = false from h) (by decide)) | refine g_cnd Tk Tryd.func48 rfl (fun h => absurd (show false = true from h) (by decide)) (fun _ => ?_) | refine g_know Tk Tryd.func48 rfl (fun h => absurd (show false = true from h) (by decide)) (fun _ => ?_) | refine s_know Tk (fun h => absurd (show false = true from h) (by decide)) (fun _ => ?_))
  first | refine g_call Tk Tryd.func48 (hs _) rfl rfl rfl rfl rfl ?_ | refine s_callq Tk (fun _ => hs _) rfl rfl rfl ?_
  refine g_ret Tk (r := bb true) rfl rfl rfl trivial rfl rfl ?_
  rfl
end Go.AI


/- FlattenUnfolds. -/
namespace Go.AI
open Go.Proofs
set_option maxRecDepth 20000
theorem equalE161 (O : List Heap) (es : List Edg) (he : es.length ≤ max63) : ASpec Tryd.prog 161 [edgs es, edgs es] O (bb true) [] O := by
  refine aspec_intro Tk Tryd.func161 rfl Tryd.call161 Tryd.ntmps161 (Nat.le_of_ble_eq_true rfl) fun E => ?_
  refine g_run Tk Tryd.func161 ?_
  first | refine g_cnd Tk Tryd.func161 rfl (fun g1 => ?_) (fun g1 => ?_) | refine g_know Tk Tryd.func161 rfl (fun g1 => ?_) (fun g1 => ?_) | refine s_know Tk (fun g1 => ?_) (fun g1 => ?_)
  · exact absurd rfl (bneT g1)
  refine g_loop ?_
  refine rch_loop2 (fun i : Nat => [(0, edgs es), (1, edgs es), (12, ii es.length), (13, ii i)]) (fun _ => []) (fun _ => O) 26
    (fun i => i ≤ es.length) (fun i => es.length - i) 0 (Nat.zero_le _) ⟨rfl, rfl, rfl, rfl, trivial⟩ rfl trivial rfl rfl ?_
  rintro i hi ih
  refine g_run Tk Tryd.func161 ?_
  first | refine g_cnd Tk Tryd.func161 rfl (fun g3 => ?_) (fun g3 => ?_) | refine g_know Tk Tryd.func161 rfl (fun g3 => ?_) (fun g3 => ?_) | refine s_know Tk (fun g3 => ?_) (fun g3 => ?_)
  · have h3 : i < es.length := by simpa using g3
    have ge : (es.map edgI)[(i : Int).toNat]? = some (edgI es[i]) := get_mapZ h3
    generalize es[i] = e at *
    refine g_drawn Tk Tryd.func161 mixedT rfl ?_
    first | refine g_need Tk Tryd.func161 (by exact ⟨by omega, by show (i : Int) < (es.length : Int); omega⟩) ?_ | refine s_need Tk (by exact ⟨by omega, by show (i : Int) < (es.length : Int); omega⟩) ?_
    first | refine g_elem Tk Tryd.func161 (ge) ?_ | refine s_elem Tk (ge) ?_
    first | refine g_need Tk Tryd.func161 (by exact ⟨by omega, by show (i : Int) < (es.length : Int); omega⟩) ?_ | refine s_need Tk (by exact ⟨by omega, by show (i : Int) < (es.length : Int); omega⟩) ?_
    first | refine g_elem Tk Tryd.func161 (ge) ?_ | refine s_elem Tk (ge) ?_
    refine e_done Tk Tryd.func161 (by kernel_rfl) ?_
    first | refine g_cnd Tk Tryd.func161 rfl (fun g4 => ?_) (fun g4 => ?_) | refine g_know Tk Tryd.func161 rfl (fun g4 => ?_) (fun g4 => ?_) | refine s_know Tk (fun g4 => ?_) (fun g4 => ?_)
    · simp at g4
    · refine g_loop ?_
      exact ih (i + 1) _ _ h3 (by omega) ⟨rfl, rfl, rfl, congrArg ii (wsucc h3 he), trivial⟩ rfl trivial rfl rfl
  · refine g_ret Tk (r := bb true) rfl rfl rfl trivial rfl rfl ?_
    rfl
theorem equalA124 (O : List Heap) (a : Aut) (ha : a.alpha.length ≤ max63) (hm : a.marked.length ≤ max63) (he : a.edges.length ≤ max63) : ASpec Tryd.prog 124 [autD a, autD a] O (bb true) [] O := by
  obtain ⟨al, n, mk, es⟩ := a
  simp only at ha hm he
  have h1 : ∀ O, ASpec Tryd.prog 134 [ints al, ints al] O (bb true) [] O := fun O => by
    have h := equal47 O al al ha
    rwa [decide_eq_true rfl] at h
  have h2 : ∀ O, ASpec Tryd.prog 134 [ints mk, ints mk] O (bb true) [] O := fun O => by
    have h := equal47 O mk mk hm
    rwa [decide_eq_true rfl] at h
  have h3 := fun O => equalE161 O es he
  refine aspec_intro Tk Tryd.func124 rfl Tryd.call124 Tryd.ntmps124 (Nat.le_of_ble_eq_true rfl) fun E => ?_
  refine g_run Tk Tryd.func124 ?_
  first | refine g_cnd Tk Tryd.func124 rfl (fun c1 => ?_) (fun c1 => ?_) | refine g_know Tk Tryd.func124 rfl (fun c1 => ?_) (fun c1 => ?_) | refine s_know Tk (fun c1 => ?_) (fun c1 => ?_)
  rotate_left
  · exact absurd rfl (beqF c1)
  first | refine g_call Tk Tryd.func124 (h1 _) rfl rfl rfl rfl rfl ?_ | refine s_callq Tk (fun _ => h1 _) rfl rfl rfl ?_
  repeat (first | refine g_cnd Tk Tryd.func124 rfl (fun _ => ?_) (fun h => absurd h (by decide)) | refine g_know Tk Tryd.func124 rfl (fun _ => ?_) (fun h => absurd h (by decide)) | refine s_know Tk (fun _ => ?_) (fun h => absurd h (by decide)) | refine g_cnd Tk Tryd.func124 rfl (fun h => absurd h (by decide)) (fun _ => ?_) | refine g_know Tk Tryd.func124 rfl (fun h => absurd h (by decide)) (fun _ => ?_) | refine s_know Tk (fun h => absurd h (by decide)) (fun _ => ?_) | refine g_cnd Tk Tryd.func124 rfl (fun _ => ?_) (fun h => absurd (show true = false from h) (by decide)) | refine g_know Tk Tryd.func124 rfl (fun _ => ?_) (fun h => absurd (show true = false from h) (by decide)) | refine s_know Tk (fun _ => ?_) (fun h => absurd (show true = false from h) (by decide)) | refine g_cnd Tk Tryd.func124 rfl (fun h => absurd (show false = true from h) (by decide)) (fun _ => ?_) | refine g_know Tk Tryd.func124 rfl (fun h => absurd (show false = true from h) (by decide)) (fun _ => ?_) | refine s_know Tk (fun h => absurd (show false = true from h) (by decide)) (fun _ => ?_))
  first | refine g_call Tk Tryd.func124 (h2 _) rfl rfl rfl rfl rfl ?_ | refine s_callq Tk (fun _ => h2 _) rfl rfl rfl ?_
  repeat (first | refine g_cnd Tk Tryd.func124 rfl (fun _ => ?_) (fun h => absurd h (by decide)) | refine g_know Tk Tryd.func124 rfl (fun _ => ?_) (fun h => absurd h (by decide)) | refine s_know Tk (fun _ => ?_) (fun h => absurd h (by decide)) | refine g_cnd Tk Tryd.func124 rfl (fun h => absurd h (by decide)) (fun _ => ?_) | refine g_know Tk Tryd.func124 rfl (fun h => absurd h (by decide)) (fun _ => ?_) | refine s_know Tk (fun h => absurd h (by decide)) (fun _ => ?_) | refine g_cnd Tk Tryd.func124 rfl (fun _ => ?_) (fun h => absurd (show true = false from h) (by decide)) | refine g_know Tk Tryd.func124 rfl (fun _ => ?_) (fun h => absurd (show true = false from h) (by decide)) | refine s_know Tk (fun _ => ?_) (fun h => absurd (show true = false from h) (by decide)) | refine g_cnd Tk Tryd.func124 rfl (fun h => absurd (show false = true from h) (by decide)) (fun _ => ?_) | refine g_know Tk Tryd.func124 rfl (fun h => absurd (show false = true from h) (by decide)) (fun _ => ?_) | refine s_know Tk (fun h => absurd (show false = true from h) (by decide)) (fun _ => ?_))
  first | refine g_call Tk Tryd.func124 (h3 _) rfl rfl rfl rfl rfl ?_ | refine s_callq Tk (fun _ => h3 _) rfl rfl rfl ?_
  refine g_ret Tk (r := bb true) rfl rfl rfl trivial rfl rfl ?_
  rfl
theorem isCanonical62 (O : List Heap) (a : Aut) (n : Nat) (hn : a.states = n) (hn1 : 1 ≤ n) (hn2 : n ≤ 4096) (hc : chkA a = 0) (hk : kOf a.edges 1 = some n) (hl : a.edges.length ≤ 1000000) (hal : a.alpha.length ≤ 1000000) (hmk : a.marked.length ≤ 1000000) : ASpec Tryd.prog 62 [autD a] O (bb true) [] O := by
  have h1 := fun O => check116 O a (by simp only [max63]; omega) (by simp only [max63]; omega) (by simp only [max63]; omega)
  rw [hc] at h1
  have h2 := fun O => canonical125 O a n hn hn1 hn2 hc hk hl hal hmk
  have h3 := fun O => equalA124 O a (by simp only [max63]; omega) (by simp only [max63]; omega) (by simp only [max63]; omega)
  obtain ⟨al, st, mk, es⟩ := a
  refine aspec_intro Tk Tryd.func62 rfl Tryd.call62 Tryd.ntmps62 (Nat.le_of_ble_eq_true rfl) fun E => ?_
  refine g_run Tk Tryd.func62 ?_
  refine g_drawn Tk Tryd.func62 mixedT rfl ?_
  first | refine g_call Tk Tryd.func62 (h1 _) rfl rfl rfl rfl rfl ?_ | refine s_callq Tk (fun _ => h1 _) rfl rfl rfl ?_
  repeat (first | refine g_cnd Tk Tryd.func62 rfl (fun _ => ?_) (fun h => absurd h (by decide)) | refine g_know Tk Tryd.func62 rfl (fun _ => ?_) (fun h => absurd h (by decide)) | refine s_know Tk (fun _ => ?_) (fun h => absurd h (by decide)) | refine g_cnd Tk Tryd.func62 rfl (fun h => absurd h (by decide)) (fun _ => ?_) | refine g_know Tk Tryd.func62 rfl (fun h => absurd h (by decide)) (fun _ => ?_) | refine s_know Tk (fun h => absurd h (by decide)) (fun _ => ?_) | refine g_cnd Tk Tryd.func62 rfl (fun _ => ?_) (fun h => absurd (show true = false from h) (by decide)) | refine g_know Tk Tryd.func62 rfl (fun _ => ?_) (fun h => absurd (show true = false from h) (by decide)) | refine s_know Tk (fun _ => ?_) (fun h => absurd (show true = false from h) (by decide)) | refine g_cnd Tk Tryd.func62 rfl (fun h => absurd (show false = true from h) (by decide)) (fun _ => ?_) | refine g_know Tk Tryd.func62 rfl (fun h => absurd (show false = true from h) (by decide)) (fun _ => ?_) | refine s_know Tk (fun h => absurd (show false = true from h) (by decide)) (fun _ => ?_))
  first | refine g_call Tk Tryd.func62 (h2 _) rfl rfl rfl rfl rfl ?_ | refine s_callq Tk (fun _ => h2 _) rfl rfl rfl ?_
  first | refine g_call Tk Tryd.func62 (h3 _) rfl rfl rfl rfl rfl ?_ | refine s_callq Tk (fun _ => h3 _) rfl rfl rfl ?_
  refine e_done Tk Tryd.func62 (by kernel_rfl) ?_
  refine g_ret Tk (r := bb true) rfl rfl rfl trivial rfl rfl ?_
  rfl
/-- The automaton of an unfolding. -/
def autU (alpha : List Int) (U : Unf Sta) : Aut := ⟨alpha, U.sts.length, U.mkl, U.eds⟩
theorem unf_eds {m : Ext} {U : Unf Sta} (hA : UAt (mkdM m) m.alpha (okS m) (stpR m) U.sts.length U) (hs : m.alpha.Pairwise (· < ·)) :
    U.eds.Pairwise ltE ∧ ∀ x ∈ U.eds, x.2.1 ∈ m.alpha := by
  rw [hA.eds]
  constructor
  · rw [List.pairwise_flatMap]
    refine ⟨fun k hk => ?_, ?_⟩
    · split
      · exact .nil
      · rw [List.pairwise_filterMap]
        refine hs.imp fun {a b} hab x hx y hy => ?_
        unfold eOf at hx hy
        split at hx
        · split at hy
          · simp only [Option.some.injEq] at hx hy
            subst hx hy
            exact .inr ⟨rfl, hab⟩
          · cases hy
        · cases hx
    · refine List.pairwise_lt_range.imp fun {a b} hab x hx y hy => ?_
      have frm : ∀ (k : Nat) (s : Sta) (z : Edg), z ∈ m.alpha.filterMap (eOf (stpR m) U.sts k s) → z.1 = (k : Int) := by
        intro k s z hz
        rw [List.mem_filterMap] at hz
        obtain ⟨ev, _, he⟩ := hz
        unfold eOf at he
        split at he
        · simp only [Option.some.injEq] at he
          subst he
          rfl
        · cases he
      have h1 : x.1 = (a : Int) := by
        split at hx
        · cases hx
        · exact frm _ _ _ hx
      have h2 : y.1 = (b : Int) := by
        split at hy
        · cases hy
        · exact frm _ _ _ hy
      left
      omega
  · intro x hx
    rw [List.mem_flatMap] at hx
    obtain ⟨k, _, hz⟩ := hx
    split at hz
    · cases hz
    · rw [List.mem_filterMap] at hz
      obtain ⟨ev, hev, he⟩ := hz
      unfold eOf at he
      split at he
      · simp only [Option.some.injEq] at he
        subst he
        exact hev
      · cases he
theorem unf_len {m : Ext} {U : Unf Sta} (hA : UAt (mkdM m) m.alpha (okS m) (stpR m) U.sts.length U) (h3 : m.alpha.length ≤ 4) : U.eds.length ≤ 4 * U.sts.length ∧ U.mkl.length ≤ U.sts.length := by
  constructor
  · rw [hA.eds]
    refine Nat.le_trans (flat_len4 fun k _ => ?_) (by rw [List.length_range]; exact Nat.le_refl _)
    split
    · simp
    · exact Nat.le_trans (List.length_filterMap_le _ _) h3
  · rw [hA.mkl, List.length_map]
    exact Nat.le_trans (List.length_filter_le _ _) (by simp)
theorem unf_chk {m : Ext} {U : Unf Sta} (hr : extRight m) (hA : UAt (mkdM m) m.alpha (okS m) (stpR m) U.sts.length U) (h64 : U.sts.length ≤ 64) : chkA (autU m.alpha U) = 0 := by
  obtain ⟨hs, _, _⟩ := checkSet_sorted hr.alpha
  obtain ⟨e1, e2⟩ := unf_eds hA hs
  have hb := (kOf_mono hA.fr).2
  have hm : checkSet (U.sts.length : Int) U.mkl none = 0 := by
    refine checkSet_of ?_ ?_ (fun y h => by cases h)
    · rw [hA.mkl, List.pairwise_map]
      exact (List.Pairwise.filter _ List.pairwise_lt_range).imp fun {a b} h => by omega
    · intro x hx
      rw [hA.mkl, List.mem_map] at hx
      obtain ⟨k, hk, rfl⟩ := hx
      have := (List.mem_filter.1 hk).1
      rw [List.mem_range] at this
      omega
  have he : chkEds m.alpha (U.sts.length : Int) none U.eds = 0 := chkEds_of e1 (fun x hx => ⟨(hb x hx).1, (hb x hx).2, e2 x hx⟩) (fun y h => by cases h)
  unfold chkA autU
  simp only
  rw [if_neg (by rw [hr.alpha]; simp), if_neg (by omega), if_neg (by omega), if_neg (by rw [hm]; simp)]
  exact he
theorem unfolds13 {g : Nat} (hg : IsTab g) {ty : TypeId} {fr : Nat × Nat} (O : List Heap) (k : Sk) (hk : skOk k) : ASpecT g (ptab ty fr) Tryd.prog 13 [skD k] O (bb true) [] O := by
  have hkn := fun O => known48 hg (ty := ty) (fr := fr) O
  have hmk := fun O => make16 O k hk
  have hm := make_made hk
  generalize makeR k = m at *
  have hok := made_ok hm
  have hr := made_right hm
  have hun := fun O => Unfold50 hg (ty := ty) (fr := fr) O m hok
  have hlw := fun O => unfold59 O m hm
  rw [unfL_same hm] at hlw
  rcases unf_made hm with ⟨e, he, he0, _⟩ | ⟨V, hV, hA⟩
  · rw [he] at hun hlw
    have hz := fun O => none60 O
    refine aspecT_stop [] Tk Tryd.func13 rfl Tryd.call13 Tryd.ntmps13 (Nat.le_of_ble_eq_true rfl) fun E hE => ?_
    refine g_run Tk Tryd.func13 ?_
    refine g_callT Tk Tryd.func13 hE (hkn _) rfl rfl rfl rfl rfl rfl ?_
    repeat (first | refine g_cnd Tk Tryd.func13 rfl (fun _ => ?_) (fun h => absurd h (by decide)) | refine g_know Tk Tryd.func13 rfl (fun _ => ?_) (fun h => absurd h (by decide)) | refine s_know Tk (fun _ => ?_) (fun h => absurd h (by decide)) | refine g_cnd Tk Tryd.func13 rfl (fun h => absurd h (by decide)) (fun _ => ?_) | refine g_know Tk Tryd.func13 rfl (fun h => absurd h (by decide)) (fun _ => ?_) | refine s_know Tk (fun h => absurd h (by decide)) (fun _ => ?_) | refine g_cnd Tk Tryd.func13 rfl (fun _ => ?_) (fun h => absurd (show true = false from h) (by decide)) | refine g_know Tk Tryd.func13 rfl (fun _ => ?_) (fun h => absurd (show true = false from h) (by decide)) | refine s_know Tk (fun _ => ?_) (fun h => absurd (show true = false from h) (by decide)) | refine g_cnd Tk Tryd.func13 rfl (fun h => absurd (show false = true from h) (by decide)) (fun _ => ?_) | refine g_know Tk Tryd.func13 rfl (fun h => absurd (show false = true from h) (by decide)) (fun _ => ?_) | refine s_know Tk (fun h => absurd (show false = true from h) (by decide)) (fun _ => ?_))
    first | refine g_call Tk Tryd.func13 (hmk _) rfl rfl rfl rfl rfl ?_ | refine s_callq Tk (fun _ => hmk _) rfl rfl rfl ?_
    refine g_callT Tk Tryd.func13 hE (hun _) rfl rfl rfl rfl rfl rfl ?_
    first | refine g_call Tk Tryd.func13 (hlw _) rfl rfl rfl rfl rfl ?_ | refine s_callq Tk (fun _ => hlw _) rfl rfl rfl ?_
    first | refine g_cnd Tk Tryd.func13 rfl (fun h1 => ?_) (fun h1 => ?_) | refine g_know Tk Tryd.func13 rfl (fun h1 => ?_) (fun h1 => ?_) | refine s_know Tk (fun h1 => ?_) (fun h1 => ?_)
    rotate_left
    · exact absurd (bneF h1) he0
    first | refine g_call Tk Tryd.func13 (hz _) rfl rfl rfl rfl rfl ?_ | refine s_callq Tk (fun _ => hz _) rfl rfl rfl ?_
    repeat (first | refine g_cnd Tk Tryd.func13 rfl (fun _ => ?_) (fun h => absurd h (by decide)) | refine g_know Tk Tryd.func13 rfl (fun _ => ?_) (fun h => absurd h (by decide)) | refine s_know Tk (fun _ => ?_) (fun h => absurd h (by decide)) | refine g_cnd Tk Tryd.func13 rfl (fun h => absurd h (by decide)) (fun _ => ?_) | refine g_know Tk Tryd.func13 rfl (fun h => absurd h (by decide)) (fun _ => ?_) | refine s_know Tk (fun h => absurd h (by decide)) (fun _ => ?_) | refine g_cnd Tk Tryd.func13 rfl (fun _ => ?_) (fun h => absurd (show true = false from h) (by decide)) | refine g_know Tk Tryd.func13 rfl (fun _ => ?_) (fun h => absurd (show true = false from h) (by decide)) | refine s_know Tk (fun _ => ?_) (fun h => absurd (show true = false from h) (by decide)) | refine g_cnd Tk Tryd.func13 rfl (fun h => absurd (show false = true from h) (by decide)) (fun _ => ?_) | refine g_know Tk Tryd.func13 rfl (fun h => absurd (show false = true from h) (by decide)) (fun _ => ?_) | refine s_know Tk (fun h => absurd (show false = true from h) (by decide)) (fun _ => ?_))
    refine g_ret Tk (r := bb (e == e)) rfl rfl rfl trivial rfl rfl ?_
    simp
  rw [hV] at hun hlw
  have h64 : V.sts.length ≤ 64 := few_states hm hA.ok hA.nd
  have h3 : m.alpha.length = 3 := by rw [hm.al]; rfl
  obtain ⟨hl1, hl2⟩ := unf_len hA (by omega)
  have hcan := fun O => isCanonical62 O (autU m.alpha V) V.sts.length rfl hA.pos (by omega) (unf_chk hr hA h64) hA.fr (by show V.eds.length ≤ _; omega) (by show m.alpha.length ≤ _; omega) (by show V.mkl.length ≤ _; omega)
  have hsm := fun O => same57 O (autU m.alpha V) (by show m.alpha.length ≤ max63; simp only [max63]; omega) (by show V.mkl.length ≤ max63; simp only [max63]; omega) (by show V.eds.length ≤ max63; simp only [max63]; omega)
  have hss := fun O => sameStates61 O V.sts (by simp only [max63]; omega) (fun s h => by have := (okS_bounds hr (hA.ok s h)).2.2.1; simp only [max63]; omega)
  clear hA hV
  obtain ⟨sts, mkl, eds⟩ := V
  refine aspecT_stop [] Tk Tryd.func13 rfl Tryd.call13 Tryd.ntmps13 (Nat.le_of_ble_eq_true rfl) fun E hE => ?_
  refine g_run Tk Tryd.func13 ?_
  refine g_callT Tk Tryd.func13 hE (hkn _) rfl rfl rfl rfl rfl rfl ?_
  repeat (first | refine g_cnd Tk Tryd.func13 rfl (fun _ => ?_) (fun h => absurd h (by decide)) | refine g_know Tk Tryd.func13 rfl (fun _ => ?_) (fun h => absurd h (by decide)) | refine s_know Tk (fun _ => ?_) (fun h => absurd h (by decide)) | refine g_cnd Tk Tryd.func13 rfl (fun h => absurd h (by decide)) (fun _ => ?_) | refine g_know Tk Tryd.func13 rfl (fun h => absurd h (by decide)) (fun _ => ?_) | refine s_know Tk (fun h => absurd h (by decide)) (fun _ => ?_) | refine g_cnd Tk Tryd.func13 rfl (fun _ => ?_) (fun h => absurd (show true = false from h) (by decide)) | refine g_know Tk Tryd.func13 rfl (fun _ => ?_) (fun h => absurd (show true = false from h) (by decide)) | refine s_know Tk (fun _ => ?_) (fun h => absurd (show true = false from h) (by decide)) | refine g_cnd Tk Tryd.func13 rfl (fun h => absurd (show false = true from h) (by decide)) (fun _ => ?_) | refine g_know Tk Tryd.func13 rfl (fun h => absurd (show false = true from h) (by decide)) (fun _ => ?_) | refine s_know Tk (fun h => absurd (show false = true from h) (by decide)) (fun _ => ?_))
  first | refine g_call Tk Tryd.func13 (hmk _) rfl rfl rfl rfl rfl ?_ | refine s_callq Tk (fun _ => hmk _) rfl rfl rfl ?_
  refine g_callT Tk Tryd.func13 hE (hun _) rfl rfl rfl rfl rfl rfl ?_
  first | refine g_call Tk Tryd.func13 (hlw _) rfl rfl rfl rfl rfl ?_ | refine s_callq Tk (fun _ => hlw _) rfl rfl rfl ?_
  repeat (first | refine g_cnd Tk Tryd.func13 rfl (fun _ => ?_) (fun h => absurd h (by decide)) | refine g_know Tk Tryd.func13 rfl (fun _ => ?_) (fun h => absurd h (by decide)) | refine s_know Tk (fun _ => ?_) (fun h => absurd h (by decide)) | refine g_cnd Tk Tryd.func13 rfl (fun h => absurd h (by decide)) (fun _ => ?_) | refine g_know Tk Tryd.func13 rfl (fun h => absurd h (by decide)) (fun _ => ?_) | refine s_know Tk (fun h => absurd h (by decide)) (fun _ => ?_) | refine g_cnd Tk Tryd.func13 rfl (fun _ => ?_) (fun h => absurd (show true = false from h) (by decide)) | refine g_know Tk Tryd.func13 rfl (fun _ => ?_) (fun h => absurd (show true = false from h) (by decide)) | refine s_know Tk (fun _ => ?_) (fun h => absurd (show true = false from h) (by decide)) | refine g_cnd Tk Tryd.func13 rfl (fun h => absurd (show false = true from h) (by decide)) (fun _ => ?_) | refine g_know Tk Tryd.func13 rfl (fun h => absurd (show false = true from h) (by decide)) (fun _ => ?_) | refine s_know Tk (fun h => absurd (show false = true from h) (by decide)) (fun _ => ?_))
  first | refine g_call Tk Tryd.func13 (hsm _) rfl rfl rfl rfl rfl ?_ | refine s_callq Tk (fun _ => hsm _) rfl rfl rfl ?_
  repeat (first | refine g_cnd Tk Tryd.func13 rfl (fun _ => ?_) (fun h => absurd h (by decide)) | refine g_know Tk Tryd.func13 rfl (fun _ => ?_) (fun h => absurd h (by decide)) | refine s_know Tk (fun _ => ?_) (fun h => absurd h (by decide)) | refine g_cnd Tk Tryd.func13 rfl (fun h => absurd h (by decide)) (fun _ => ?_) | refine g_know Tk Tryd.func13 rfl (fun h => absurd h (by decide)) (fun _ => ?_) | refine s_know Tk (fun h => absurd h (by decide)) (fun _ => ?_) | refine g_cnd Tk Tryd.func13 rfl (fun _ => ?_) (fun h => absurd (show true = false from h) (by decide)) | refine g_know Tk Tryd.func13 rfl (fun _ => ?_) (fun h => absurd (show true = false from h) (by decide)) | refine s_know Tk (fun _ => ?_) (fun h => absurd (show true = false from h) (by decide)) | refine g_cnd Tk Tryd.func13 rfl (fun h => absurd (show false = true from h) (by decide)) (fun _ => ?_) | refine g_know Tk Tryd.func13 rfl (fun h => absurd (show false = true from h) (by decide)) (fun _ => ?_) | refine s_know Tk (fun h => absurd (show false = true from h) (by decide)) (fun _ => ?_))
  first | refine g_call Tk Tryd.func13 (hss _) rfl rfl rfl rfl rfl ?_ | refine s_callq Tk (fun _ => hss _) rfl rfl rfl ?_
  repeat (first | refine g_cnd Tk Tryd.func13 rfl (fun _ => ?_) (fun h => absurd h (by decide)) | refine g_know Tk Tryd.func13 rfl (fun _ => ?_) (fun h => absurd h (by decide)) | refine s_know Tk (fun _ => ?_) (fun h => absurd h (by decide)) | refine g_cnd Tk Tryd.func13 rfl (fun h => absurd h (by decide)) (fun _ => ?_) | refine g_know Tk Tryd.func13 rfl (fun h => absurd h (by decide)) (fun _ => ?_) | refine s_know Tk (fun h => absurd h (by decide)) (fun _ => ?_) | refine g_cnd Tk Tryd.func13 rfl (fun _ => ?_) (fun h => absurd (show true = false from h) (by decide)) | refine g_know Tk Tryd.func13 rfl (fun _ => ?_) (fun h => absurd (show true = false from h) (by decide)) | refine s_know Tk (fun _ => ?_) (fun h => absurd (show true = false from h) (by decide)) | refine g_cnd Tk Tryd.func13 rfl (fun h => absurd (show false = true from h) (by decide)) (fun _ => ?_) | refine g_know Tk Tryd.func13 rfl (fun h => absurd (show false = true from h) (by decide)) (fun _ => ?_) | refine s_know Tk (fun h => absurd (show false = true from h) (by decide)) (fun _ => ?_))
  first | refine g_call Tk Tryd.func13 (hcan _) rfl rfl rfl rfl rfl ?_ | refine s_callq Tk (fun _ => hcan _) rfl rfl rfl ?_
  refine g_ret Tk (r := bb true) rfl rfl rfl trivial rfl rfl ?_
  rfl
end Go.AI
