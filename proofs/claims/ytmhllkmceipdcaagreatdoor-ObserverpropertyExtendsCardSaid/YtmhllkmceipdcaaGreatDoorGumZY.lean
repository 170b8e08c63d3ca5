/- The layer of abstract runs, part 51. -/
import Derived.Test.YtmhllkmceipdcaaGreatDoorGumZX
set_option linter.unusedSimpArgs false
set_option linter.unusedVariables false
set_option linter.all false

/- Plain: Consistent is what the law says. -/
namespace Go.AI
theorem enb_eq {a : Aut} {n : Nat} (h : gAut a n) (l : List Int) (ev : Int) : enabR a.edges l ev = enbR a.edges l ev := by
  unfold enabR enbR
  congr 1
  funext s
  cases hb : decide (stp3 a.edges s ev ≥ 0) with
  | true =>
    have h1 : stp3 a.edges s ev ≥ 0 := of_decide_eq_true hb
    by_cases c : ∃ e ∈ a.edges, e.1 = s ∧ e.2.1 = ev
    · obtain ⟨e, he, h2, h3⟩ := c
      exact List.any_eq_true.2 ⟨e, List.mem_filter.2 ⟨he, by simpa using h2⟩, by simpa using h3⟩
    · rw [stp3_no fun e he h => c ⟨e, he, h⟩] at h1
      exact absurd h1 (by decide)
  | false =>
    have h1 : ¬ stp3 a.edges s ev ≥ 0 := of_decide_eq_false hb
    cases hc : (a.edges.filter fun e => e.1 == s).any fun e => e.2.1 == ev with
    | false => rfl
    | true =>
      obtain ⟨e, he, h3⟩ := List.any_eq_true.1 hc
      obtain ⟨he, h2⟩ := List.mem_filter.1 he
      have h2 : e.1 = s := by simpa using h2
      have h3 : e.2.1 = ev := by simpa using h3
      have := stp3_of h.pw he
      rw [h2, h3] at this
      exact absurd (by rw [this]; exact (h.to e he).1) h1
theorem con_eq {a : Aut} {n : Nat} (h : gAut a n) (on un : List Int) (s ev : Int) : conR a on un n s ev = (decide (ev ∈ on) && (decide (ev ∈ un) && ctrR a on un n s ev)) := by
  unfold conR ctrR
  rw [enb_eq h, enb_eq h, low_un on un, Bool.and_assoc]
theorem csK_find (a : Aut) (on un : List Int) (n : Nat) (s : Int) : ∀ l, csK a on un n s l = l.find? fun ev => decide (ev ∈ un) && ctrR a on un n s ev
  | [] => rfl
  | ev :: r => by
    simp only [csK, List.find?_cons]
    by_cases c : ev ∈ un ∧ ctrR a on un n s ev = true
    · rw [if_pos c, show (decide (ev ∈ un) && ctrR a on un n s ev) = true by simp [c.1, c.2]]
    · rw [if_neg c, csK_find a on un n s r]
      cases hb : decide (ev ∈ un) && ctrR a on un n s ev with
      | false => rfl
      | true => exact absurd (by simpa using hb) c
theorem csK_eq {a : Aut} {n : Nat} (h : gAut a n) (on un : List Int) (s : Int) : csK a on un n s (keptR a on) = a.alpha.find? fun ev => conR a on un n s ev := by
  rw [csK_find]
  unfold keptR
  rw [List.find?_filter]
  refine find?_congr' fun ev _ => ?_
  rw [con_eq h]
  simp
def csV (a : Aut) (on un : List Int) (n : Nat) : Option (OS × List Int) → List Int × Int × Bool
  | none => ([], -1, true)
  | some z => (z.2, (csK a on un n z.1.1 (keptR a on)).getD 0, false)
theorem csL_find (a : Aut) (on un : List Int) (n : Nat) : ∀ l, csL a on un n l = csV a on un n (l.find? fun z => (csK a on un n z.1.1 (keptR a on)).isSome)
  | [] => rfl
  | z :: r => by
    simp only [csL, List.find?_cons]
    cases hm : csK a on un n z.1.1 (keptR a on) with
    | none =>
      simp only [Option.isSome_none]
      exact csL_find a on un n r
    | some t => simp only [Option.isSome_some, csV, hm, Option.getD_some]
theorem evC_in {a : Aut} {n : Nat} (h : gAut a n) : ∀ x ∈ intsV n, ∀ ev ∈ evC a.edges x, (fun _ : Int => true) (stp3 a.edges x ev) = true → stp3 a.edges x ev ∈ intsV n := fun x hx ev he _ => by
  unfold evC at he
  obtain ⟨e, hf, rfl⟩ := List.mem_map.1 he
  obtain ⟨hm, h2⟩ := List.mem_filter.1 hf
  have h2 : e.1 = x := by simpa using h2
  have := stp3_of h.pw hm
  rw [h2] at this
  rw [this]
  exact mem_intsV.2 (h.to e hm)
/-- The states, in the order in which the law finds them. -/
theorem sts_img {a : Aut} {n : Nat} (h : gAut a n) (hn : n ≤ 5) (hn0 : n ≠ 0) (on : List Int) : bfull (stp3 a.edges) (fun _ => true) (evC a.edges) 4096 0 [((0 : Int), [])] = img (fun x : OS => some x.1) (prsR a on n) := by
  have hVl := statesV_len hn
  have hB0 : bOk (statesV n) [(((0 : Int), clo a.edges (lowP on [] false) n [0]), ([] : List Int))] := bOk_one (mem_statesV.2 ⟨by simp only; omega, sorted_subs _ _⟩)
  rw [← prs_eq h hn hn0 on]
  have hi := bfull_img (V := statesV n) (nx := nxO a.edges on [] n) (ok := fun _ => true) (evs := evO a.edges) (nx' := stp3 a.edges) (ok' := fun _ => true) (evs' := evC a.edges) (h := fun x : OS => some x.1) (N := 4096)
    (evO_in h on) (fun x _ hx => by cases hx) (fun x _ y hy => by
      cases hy
      exact ⟨rfl, fun ev => rfl⟩) (by omega) 4096 0 4096 [((0, clo a.edges (lowP on [] false) n [0]), [])] rfl (by simp) (Nat.le_refl _) hB0 (by simp)
  rw [hi]
  have e : img (fun x : OS => some x.1) [(((0 : Int), clo a.edges (lowP on [] false) n [0]), ([] : List Int))] = [(0, [])] := rfl
  have e5 : (img (fun x : OS => some x.1) (List.take 0 [(((0 : Int), clo a.edges (lowP on [] false) n [0]), ([] : List Int))])).length = 0 := rfl
  rw [e, e5]
theorem any_find {α : Type} (p : α → Bool) : ∀ l : List α, l.any p = (l.find? p).isSome
  | [] => rfl
  | x :: r => by
    rw [List.any_cons, List.find?_cons, any_find p r]
    cases p x <;> rfl
/-- CONSISTENT IS WHAT THE LAW SAYS. -/
theorem cs_eq {a : Aut} {n : Nat} (h : gAut a n) (hn : n ≤ 5) (on un : List Int) : csO a on un n (csR a on un n) = csL a on un n (prsR a on n) := by
  by_cases hn0 : n = 0
  · unfold csR prsR
    rw [if_pos hn0, if_pos hn0]
    rfl
  have hB0 : bOk (intsV n) [((0 : Int), ([] : List Int))] := bOk_one (mem_intsV.2 (by omega))
  have hVl := intsV_len n
  have hbad : ∀ s, badC a on un n s = (csK a on un n s (keptR a on)).isSome := fun s => by
    rw [csK_eq h]
    unfold badC
    rw [any_find]
  rw [csL_find]
  unfold csR
  rw [if_neg hn0, bsr_find (V := intsV n) (N := 4096) (evC_in h) (by omega) 4096 0 _ rfl (by simp) hB0 (by simp), sts_img h hn hn0 on, img_find]
  have e : (prsR a on n).find? (fun z => optB (fun s => badC a on un n s) (some z.1.1)) = (prsR a on n).find? fun z => (csK a on un n z.1.1 (keptR a on)).isSome := find?_congr' fun z _ => hbad z.1.1
  rw [e]
  cases hf : (prsR a on n).find? fun z => (csK a on un n z.1.1 (keptR a on)).isSome with
  | none => rfl
  | some z =>
    show (z.2, (a.alpha.find? fun ev => conR a on un n z.1.1 ev).getD 0, false) = (z.2, (csK a on un n z.1.1 (keptR a on)).getD 0, false)
    rw [csK_eq h]
end Go.AI


/- Law Consistent. -/
namespace Go.AI
open Go.Proofs
set_option maxRecDepth 20000
end Go.AI


/- The law's own extend. -/
namespace Go.AI
open Go.Proofs
set_option maxRecDepth 20000
def exl1 (a : Aut) (un : List Int) (n : Nat) : List Int → List Int → List Int → List Int × List Int
  | [], set, ad => (set, ad)
  | x :: r, set, ad => if bothB a set un n = true then (set, ad) else if x ∈ set then exl1 a un n r set ad else exl1 a un n r (insR set x) (ad ++ [x])
def exl2 (a : Aut) (un : List Int) (n : Nat) : List Int → List Int → List Int
  | [], set => set
  | x :: r, set => exl2 a un n r (if bothB a (set.filter fun y => y != x) un n = true then set.filter fun y => y != x else set)
def extL (a : Aut) (on un : List Int) (n : Nat) : List Int := exl2 a un n (exl1 a un n a.alpha (keptR a on) []).2 (exl1 a un n a.alpha (keptR a on) []).1
theorem insR_len2 (l : List Int) (y : Int) : (insR l y).length ≤ l.length + 1 := by
  unfold insR
  rw [List.length_append, List.length_append, List.length_singleton]
  have : (l.filter fun x => decide (x < y)).length + (l.filter fun x => decide (x > y)).length ≤ l.length := by
    induction l with
    | nil => simp
    | cons z r ih =>
      rw [List.filter_cons, List.filter_cons]
      by_cases c1 : z < y
      · have c2 : ¬ z > y := by omega
        simp only [c1, c2, decide_true, decide_false, if_true, List.length_cons, Bool.false_eq_true, if_false]
        omega
      · by_cases c2 : z > y
        · simp only [c1, c2, decide_true, decide_false, if_true, List.length_cons, Bool.false_eq_true, if_false]
          omega
        · simp only [c1, c2, decide_false, List.length_cons, Bool.false_eq_true, if_false]
          omega
  omega
set_option maxHeartbeats 16000000 in
theorem extend16 (O : List Heap) (a : Aut) (on un : List Int) (n : Nat) (h : gAut a n) (hn : n ≤ 5) (hA : a.alpha.length ≤ 32) (hon : on.length ≤ max63) (hun : un.length ≤ max63) : ASpec Tryz.prog 16 [autD a, ints on, ints un] O (ints (extL a on un n)) [] O := by
  have hkept : ∀ O, ASpec Tryz.prog 29 [autD a, ints on] O (ints (keptR a on)) [] O := fun O => kept29 O a on h.sm.al hon
  have hkl : (keptR a on).length ≤ 32 := Nat.le_trans (List.length_filter_le _ _) hA
  have hbo := fun O set (hs : set.length ≤ 1000) => both52 O a set un n h hn (by simp only [max63]; omega) hun
  unfold extL
  generalize keptR a on = kp at *
  clear h
  generalize hK : exl1 a un n a.alpha kp [] = KK
  generalize hK2 : exl2 a un n KK.2 KK.1 = K2
  refine aspec_stop [8] Tk Tryz.func16 rfl Tryz.call16 Tryz.ntmps16 (Nat.le_of_ble_eq_true rfl) fun E => ?_
  refine g_run Tk Tryz.func16 ?_
  first | refine g_call Tk Tryz.func16 (hkept _) rfl rfl rfl rfl rfl ?_ | refine s_callq Tk (fun _ => hkept _) rfl rfl rfl ?_
  refine g_loop ?_
  refine rch_wk (wk_nil 8 51 3 1 rfl rfl rfl) ?_
  apply join_q (α := List Int × List Int) (P := fun y => exl2 a un n y.2 y.1 = K2 ∧ y.1.length ≤ 64 ∧ y.2.length ≤ 32) (s6 := fun y => { σ := [(2, ints un), (3, .own 0 3 0 0), (7, ints y.1), (8, ints y.2)], S := [(3, .box (autC a))] :: O, n := 70 })
  · intro J
    refine rch_loop2 (fun x : Nat × List Int × List Int => [(2, ints un), (3, .own 0 3 0 0), (7, ints x.2.1), (8, .osl 0 51), (9, ii x.1)]) (fun x => [(3, .box (autC a)), (51, oints x.2.2)]) (fun _ => O) 70
      (fun x => x.1 ≤ a.alpha.length ∧ x.2.1.length ≤ 32 + x.1 ∧ x.2.2.length ≤ x.1 ∧ exl1 a un n (a.alpha.drop x.1) x.2.1 x.2.2 = KK) (fun x => a.alpha.length - x.1) (0, kp, []) ⟨Nat.zero_le _, by simp only; omega, Nat.le_refl _, by simpa using hK⟩ ⟨rfl, rfl, rfl, rfl, rfl, trivial⟩ rfl ⟨rfl, rfl, trivial⟩ rfl rfl ?_
    rintro ⟨i, set, ad⟩ ⟨hi, hsl, hadl, hno⟩ ih
    simp only at hi hsl hadl hno
    have hj1 : ii (IntKind.i64.wrap ((i : Int) + 1)) = ii ((i + 1 : Nat) : Int) := congrArg ii (wsucc (n := 1000001) (by omega) (by decide))
    refine g_run Tk Tryz.func16 ?_
    first | refine g_cnd Tk Tryz.func16 rfl (fun g1 => ?_) (fun g1 => ?_) | refine g_know Tk Tryz.func16 rfl (fun g1 => ?_) (fun g1 => ?_) | refine s_know Tk (fun g1 => ?_) (fun g1 => ?_)
    · have g2 : i < a.alpha.length := by simpa using g1
      clear g1
      have gx : (a.alpha.map fun x => [vi x])[(i : Int).toNat]? = some [vi a.alpha[i]] := get_mapZ (f := fun x => [vi x]) g2
      rw [List.drop_eq_getElem_cons g2] at hno
      simp only [exl1] at hno
      have hb := fun O => hbo O set (by omega)
      generalize a.alpha[i] = x at *
      first | refine g_call Tk Tryz.func16 (hb _) rfl rfl rfl rfl rfl ?_ | refine s_callq Tk (fun _ => hb _) rfl rfl rfl ?_
      first | refine g_cnd Tk Tryz.func16 rfl (fun c1 => ?_) (fun c1 => ?_) | refine g_know Tk Tryz.func16 rfl (fun c1 => ?_) (fun c1 => ?_) | refine s_know Tk (fun c1 => ?_) (fun c1 => ?_)
      rotate_left
      · have c1 : bothB a set un n = true := notF c1
        rw [if_pos c1] at hno
        refine g_stop ?_
        refine rch_wk (wk_freeze 51 rfl rfl) ?_
        refine rch_meet (J (set, ad) ⟨by rw [← hK2, ← hno], by simp only; omega, by simp only; omega⟩) ⟨rfl, rfl, rfl, rfl, trivial⟩ rfl ⟨rfl, trivial⟩ rfl rfl
      have c1 : bothB a set un n = false := notT c1
      rw [if_neg (by rw [c1]; decide)] at hno
      first | refine g_need Tk Tryz.func16 (by exact ⟨by omega, by show (i : Int) < (a.alpha.length : Int); omega⟩) ?_ | refine s_need Tk (by exact ⟨by omega, by show (i : Int) < (a.alpha.length : Int); omega⟩) ?_
      first | refine g_elem Tk Tryz.func16 (gx) ?_ | refine s_elem Tk (gx) ?_
      first | refine g_call Tk Tryz.func16 (has30 _ set x (by simp only [max63]; omega)) rfl rfl rfl rfl rfl ?_ | refine s_callq Tk (fun _ => has30 _ set x (by simp only [max63]; omega)) rfl rfl rfl ?_
      first | refine g_cnd Tk Tryz.func16 rfl (fun c3 => ?_) (fun c3 => ?_) | refine g_know Tk Tryz.func16 rfl (fun c3 => ?_) (fun c3 => ?_) | refine s_know Tk (fun c3 => ?_) (fun c3 => ?_)
      · have c3 : x ∉ set := of_decide_eq_false (notT c3)
        rw [if_neg c3] at hno
        have hins := fun O => insert53 O set x (by omega)
        have hil := insR_len2 set x
        refine g_drawn Tk Tryz.func16 mixedT rfl ?_
        first | refine g_need Tk Tryz.func16 (by exact ⟨by omega, by show (i : Int) < (a.alpha.length : Int); omega⟩) ?_ | refine s_need Tk (by exact ⟨by omega, by show (i : Int) < (a.alpha.length : Int); omega⟩) ?_
        first | refine g_elem Tk Tryz.func16 (gx) ?_ | refine s_elem Tk (gx) ?_
        first | refine g_call Tk Tryz.func16 (hins _) rfl rfl rfl rfl rfl ?_ | refine s_callq Tk (fun _ => hins _) rfl rfl rfl ?_
        first | refine g_need Tk Tryz.func16 (by exact ⟨by omega, by show (i : Int) < (a.alpha.length : Int); omega⟩) ?_ | refine s_need Tk (by exact ⟨by omega, by show (i : Int) < (a.alpha.length : Int); omega⟩) ?_
        first | refine g_elem Tk Tryz.func16 (gx) ?_ | refine s_elem Tk (gx) ?_
        refine e_tail Tk Tryz.func16 ([14, 15, 16]) (by kernel_rfl) (by kernel_rfl) ?_
        first | refine g_need Tk Tryz.func16 (by exact ⟨by show (ad.length + 1) * 8 ≤ 140737488355328; omega, by show ad.length + 1 ≤ 9223372036854775807; omega⟩) ?_ | refine s_need Tk (by exact ⟨by show (ad.length + 1) * 8 ≤ 140737488355328; omega, by show ad.length + 1 ≤ 9223372036854775807; omega⟩) ?_
        refine g_loop ?_
        refine ih (i + 1, insR set x, ad ++ [x]) _ _ ⟨g2, by simp only; omega, by simp only [List.length_append, List.length_singleton]; omega, hno⟩ (by simp only; omega) ⟨rfl, rfl, rfl, rfl, hj1, trivial⟩ rfl ⟨rfl, congrArg some (oints_app ad x), trivial⟩ rfl rfl
      · have c3 : x ∈ set := of_decide_eq_true (notF c3)
        rw [if_pos c3] at hno
        refine g_loop ?_
        exact ih (i + 1, set, ad) _ _ ⟨g2, by simp only; omega, by simp only; omega, hno⟩ (by simp only; omega) ⟨rfl, rfl, rfl, rfl, hj1, trivial⟩ rfl ⟨rfl, rfl, trivial⟩ rfl rfl
    · have g2 : a.alpha.length ≤ i := by simpa using g1
      rw [List.drop_of_length_le g2] at hno
      have hno : (set, ad) = KK := hno
      repeat (first | refine gcT Tk Tryz.func16 rfl ?_ | refine gkT Tk Tryz.func16 rfl ?_ | refine skT Tk ?_ | refine gcF Tk Tryz.func16 rfl ?_ | refine gkF Tk Tryz.func16 rfl ?_ | refine skF Tk ?_)
      refine g_stop ?_
      refine rch_wk (wk_freeze 51 rfl rfl) ?_
      refine rch_meet (J (set, ad) ⟨by rw [← hK2, ← hno], by simp only; omega, by simp only; omega⟩) ⟨rfl, rfl, rfl, rfl, trivial⟩ rfl ⟨rfl, trivial⟩ rfl rfl
  rintro ⟨set, ad⟩ ⟨hK2', hk1, hk2⟩
  simp only at hK2' hk1 hk2
  refine g_run Tk Tryz.func16 ?_
  refine g_go Tk Tryz.func16 ?_
  refine g_loop ?_
  refine rch_loop2 (fun x : Nat × List Int => [(2, ints un), (3, .own 0 3 0 0), (7, ints x.2), (8, ints ad), (10, ii x.1)]) (fun _ => [(3, .box (autC a))]) (fun _ => O) 70
    (fun x => x.1 ≤ ad.length ∧ x.2.length ≤ 64 ∧ exl2 a un n (ad.drop x.1) x.2 = K2) (fun x => ad.length - x.1) (0, set) ⟨Nat.zero_le _, hk1, by simpa using hK2'⟩ ⟨rfl, rfl, rfl, rfl, rfl, trivial⟩ rfl ⟨rfl, trivial⟩ rfl rfl ?_
  rintro ⟨i, set⟩ ⟨hi, hsl, hno⟩ ih
  simp only at hi hsl hno
  have hj1 : ii (IntKind.i64.wrap ((i : Int) + 1)) = ii ((i + 1 : Nat) : Int) := congrArg ii (wsucc (n := 1000001) (by omega) (by decide))
  refine g_run Tk Tryz.func16 ?_
  first | refine g_cnd Tk Tryz.func16 rfl (fun g1 => ?_) (fun g1 => ?_) | refine g_know Tk Tryz.func16 rfl (fun g1 => ?_) (fun g1 => ?_) | refine s_know Tk (fun g1 => ?_) (fun g1 => ?_)
  · have g2 : i < ad.length := by simpa using g1
    clear g1
    have gx : (ad.map fun x => [vi x])[(i : Int).toNat]? = some [vi ad[i]] := get_mapZ (f := fun x => [vi x]) g2
    rw [List.drop_eq_getElem_cons g2] at hno
    simp only [exl2] at hno
    generalize ad[i] = x at *
    have hwi := fun O => without54 O set x (by omega)
    have hll : (set.filter fun y => y != x).length ≤ 64 := Nat.le_trans (List.length_filter_le _ _) hsl
    generalize (set.filter fun y => y != x) = ls at *
    have hb := fun O => hbo O ls (by omega)
    first | refine g_need Tk Tryz.func16 (by exact ⟨by omega, by show (i : Int) < (ad.length : Int); omega⟩) ?_ | refine s_need Tk (by exact ⟨by omega, by show (i : Int) < (ad.length : Int); omega⟩) ?_
    first | refine g_elem Tk Tryz.func16 (gx) ?_ | refine s_elem Tk (gx) ?_
    first | refine g_call Tk Tryz.func16 (hwi _) rfl rfl rfl rfl rfl ?_ | refine s_callq Tk (fun _ => hwi _) rfl rfl rfl ?_
    first | refine g_call Tk Tryz.func16 (hb _) rfl rfl rfl rfl rfl ?_ | refine s_callq Tk (fun _ => hb _) rfl rfl rfl ?_
    first | refine g_cnd Tk Tryz.func16 rfl (fun c1 => ?_) (fun c1 => ?_) | refine g_know Tk Tryz.func16 rfl (fun c1 => ?_) (fun c1 => ?_) | refine s_know Tk (fun c1 => ?_) (fun c1 => ?_)
    · have c1 : bothB a ls un n = true := c1
      rw [if_pos c1] at hno
      refine g_loop ?_
      exact ih (i + 1, ls) _ _ ⟨g2, hll, hno⟩ (by simp only; omega) ⟨rfl, rfl, rfl, rfl, hj1, trivial⟩ rfl ⟨rfl, trivial⟩ rfl rfl
    · have c1 : bothB a ls un n = false := c1
      rw [if_neg (by rw [c1]; decide)] at hno
      refine g_loop ?_
      exact ih (i + 1, set) _ _ ⟨g2, hsl, hno⟩ (by simp only; omega) ⟨rfl, rfl, rfl, rfl, hj1, trivial⟩ rfl ⟨rfl, trivial⟩ rfl rfl
  · have g2 : ad.length ≤ i := by simpa using g1
    rw [List.drop_of_length_le g2] at hno
    have hno : set = K2 := hno
    refine g_ret Tk (r := ints set) rfl rfl rfl trivial rfl rfl ?_
    rw [hno]
end Go.AI


/- Plain: Refutes and Contradicts are what the law says. -/
namespace Go.AI
end Go.AI


/- Plain: the projections onto all events and onto none. -/
namespace Go.AI
theorem nolow_all {a : Aut} {n : Nat} (h : gAut a n) : ∀ e ∈ a.edges, lowP a.alpha [] false e.2.1 = false := fun e he => by
  have := h.ev e he
  simp [lowP, this]
theorem clo_single {es : List Edg} {p : Int → Bool} {n : Nat} {s : Int} (hes : ∀ x ∈ es, 0 ≤ x.2.2 ∧ x.2.2 < (n : Int)) (hno : ∀ e ∈ es, p e.2.1 = false) (hs : 0 ≤ s ∧ s < (n : Int)) : clo es p n [s] = [s] := by
  refine lt_ext (sortedBelow_lt _ _) (by simp) fun x => ?_
  rw [mem_clo hes]
  constructor
  · rintro ⟨_, h⟩
    cases h with
    | base h => exact h
    | step _ he hp => rw [hno _ he] at hp; cases hp
  · intro h
    rw [List.mem_singleton] at h
    subst h
    exact ⟨hs, .base (by simp)⟩
theorem all_run {a : Aut} {n : Nat} (h : gAut a n) : ∀ (w : List Int) (x y : OS), (0 ≤ x.1 ∧ x.1 < (n : Int)) → x.2 = [x.1] → runO a.edges a.alpha [] n x w = some y → (0 ≤ y.1 ∧ y.1 < (n : Int)) ∧ y.2 = [y.1]
  | [], x, y, hx, h1, hr => by
    simp only [runO, Option.some.injEq] at hr
    subst hr
    exact ⟨hx, h1⟩
  | ev :: w, x, y, hx, h1, hr => by
    have eO : runO a.edges a.alpha [] n x (ev :: w) = if stp3 a.edges x.1 ev < 0 then none else runO a.edges a.alpha [] n (nxO a.edges a.alpha [] n x ev) w := rfl
    rw [eO] at hr
    by_cases c : stp3 a.edges x.1 ev < 0
    · rw [if_pos c] at hr; cases hr
    rw [if_neg c] at hr
    have hin : 0 ≤ stp3 a.edges x.1 ev ∧ stp3 a.edges x.1 ev < (n : Int) := by
      rcases stp3_b (n := (n : Int)) (es := a.edges) (s := x.1) (ev := ev) h.to with h2 | h2
      · rw [h2] at c; exact absurd (by decide) c
      · exact h2
    have hex : ∃ e ∈ a.edges, e.1 = x.1 ∧ e.2.1 = ev := by
      by_cases c2 : ∃ e ∈ a.edges, e.1 = x.1 ∧ e.2.1 = ev
      · exact c2
      · rw [stp3_no fun e he hc => c2 ⟨e, he, hc⟩] at hin
        exact absurd hin.1 (by decide)
    obtain ⟨e, he, e1, e2⟩ := hex
    have hal : ev ∈ a.alpha := by have := h.ev e he; rw [e2] at this; exact this
    refine all_run h w _ y hin ?_ hr
    show (if ev ∈ a.alpha then nxt a.edges (lowP a.alpha [] false) n x.2 ev else x.2) = [stp3 a.edges x.1 ev]
    rw [if_pos hal, h1]
    have hc : clo a.edges (lowP a.alpha [] false) n (tgtE a.edges [x.1] ev) = clo a.edges (lowP a.alpha [] false) n [stp3 a.edges x.1 ev] := by
      refine clo_congr h.to (fun _ _ => rfl) fun z => ?_
      rw [mem_tgtE, List.mem_singleton]
      constructor
      · rintro ⟨e', he', g1, g2, g3⟩
        rw [List.mem_singleton] at g1
        have := stp3_of h.pw he'
        rw [g1, g2, g3] at this
        exact this.symm
      · intro hz
        have := stp3_of h.pw he
        rw [e1, e2] at this
        exact ⟨e, he, by rw [e1]; simp, e2, by rw [hz, this]⟩
    unfold nxt
    rw [hc, clo_single h.to (nolow_all h) hin]
theorem mis_same (a : Aut) (on A : List Int) (n : Nat) (hn : n ≤ 5) (hA : A ∈ subs n) : misR a on n A A = none := by
  cases hm : misR a on n A A with
  | none => rfl
  | some t =>
    obtain ⟨_, h2, _⟩ := mis_run hn hA hA hm
    unfold badM at h2
    simp at h2
theorem all_obs {a : Aut} {n : Nat} (h : gAut a n) (hn : n ≤ 5) : obL a a.alpha n (prsR a a.alpha n) = ([], [], true) := by
  rw [obL_find, List.find?_eq_none.2]
  · rfl
  · intro z hz
    obtain ⟨hn0, hr⟩ := prs_run a.alpha hz
    have h0 : (0 : Int) ≤ 0 ∧ (0 : Int) < (n : Int) := by omega
    obtain ⟨h1, h2⟩ := all_run h z.2 _ z.1 h0 (clo_single h.to (nolow_all h) h0) hr
    rw [h2, clo_single h.to (nolow_all h) h1]
    have hA : [z.1.1] ∈ subs n := by
      rw [← clo_single h.to (nolow_all h) h1]
      exact sorted_subs _ _
    rw [mis_same a a.alpha _ n hn hA]
    simp
theorem all_cs {a : Aut} {n : Nat} (h : gAut a n) (un : List Int) : csL a a.alpha un n (prsR a a.alpha n) = ([], -1, true) := by
  rw [csL_find, List.find?_eq_none.2]
  · rfl
  · intro z _
    have e : csK a a.alpha un n z.1.1 (keptR a a.alpha) = none := by
      rw [csK_find, List.find?_eq_none]
      intro ev _
      have hc : clo a.edges (lowP a.alpha un true) n [z.1.1] = clo a.edges (lowP a.alpha [] false) n [z.1.1] := clo_congr h.to (fun e he => by
        have := h.ev e he
        simp [lowP, this]) fun _ => Iff.rfl
      unfold ctrR
      rw [hc]
      simp
    rw [e]
    simp
/- Onto none. -/
section
variable {S : Type} [DecidableEq S]
end
end Go.AI


/- Plain: what is canonical is reached. -/
namespace Go.AI
end Go.AI


/- Plain: Extend is what the law says, has both properties, and extending again changes nothing. -/
namespace Go.AI
theorem nxO_un (es : List Edg) (on un : List Int) (n : Nat) : nxO es on un n = nxO es on [] n := by
  funext x ev
  unfold nxO
  rw [low_un on un]
theorem refR_un (a : Aut) (on un : List Int) (n : Nat) : refR a on un n = refR a on [] n := by
  funext e s
  unfold refR difR
  rw [low_un on un]
theorem badO_un (a : Aut) (on un : List Int) (n : Nat) : badO a on un n = badO a on [] n := by
  funext y
  unfold badO
  rw [refR_un]
theorem obsR_un (a : Aut) (on un : List Int) (n : Nat) : obsR a on un n = obsR a on [] n := by
  unfold obsR
  rw [nxO_un, badO_un, low_un on un]
theorem obsO_un (a : Aut) (on un : List Int) (n : Nat) (z : Option (OS × List Int)) : obsO a on un n z = obsO a on [] n z := by
  cases z with
  | none => rfl
  | some x =>
    show (x.2, (match refR a on un n x.1.2 x.1.1 with | some t => t.2 | none => []), false) = _
    rw [refR_un]
    rfl
theorem hld_eq {a : Aut} {n : Nat} (h : gAut a n) (hn : n ≤ 5) (set un : List Int) : hldB a un n set = bothB a set un n := by
  unfold hldB bothB
  rw [obsR_un, obsO_un, obs_eq h hn, cs_eq h hn]
structure goodS (a : Aut) (set : List Int) : Prop where
  pw : set.Pairwise (· < ·)
  sub : ∀ x ∈ set, x ∈ a.alpha
theorem goodS.chk {a : Aut} {n : Nat} (h : gAut a n) {set : List Int} (g : goodS a set) : checkSet 32 set none = 0 :=
  checkSet_of g.pw (fun x hx => (checkSet_sorted (chk_parts h.c).1).2.1 x (g.sub x hx)) (fun y e => by cases e)
theorem hldR_eq {a : Aut} {n : Nat} (h : gAut a n) (hn : n ≤ 5) {set un : List Int} (hu : checkSet 32 un none = 0) (g : goodS a set) : hldR a un n set = (bothB a set un n, 0) := by
  unfold hldR
  rw [if_pos (opE_good h.c (g.chk h) hu), hld_eq h hn]
theorem mem_insR {l : List Int} {y z : Int} (hy : y ∉ l) : z ∈ insR l y ↔ z = y ∨ z ∈ l := by
  unfold insR
  simp only [List.mem_append, List.mem_filter, List.mem_singleton, decide_eq_true_eq]
  constructor
  · rintro ((h | h) | h)
    · exact .inr h.1
    · exact .inl h
    · exact .inr h.1
  · rintro (h | h)
    · exact .inl (.inr h)
    · rcases Int.lt_trichotomy z y with h1 | h1 | h1
      · exact .inl (.inl ⟨h, h1⟩)
      · exact absurd (h1 ▸ h) hy
      · exact .inr ⟨h, h1⟩
theorem insR_lt {l : List Int} (hl : l.Pairwise (· < ·)) (y : Int) : (insR l y).Pairwise (· < ·) := by
  unfold insR
  rw [List.pairwise_append, List.pairwise_append]
  refine ⟨⟨hl.filter _, List.pairwise_singleton _ _, fun a ha b hb => ?_⟩, hl.filter _, fun a ha b hb => ?_⟩
  · rw [List.mem_singleton] at hb
    have := of_decide_eq_true (List.mem_filter.1 ha).2
    omega
  · have h2 := of_decide_eq_true (List.mem_filter.1 hb).2
    rcases List.mem_append.1 ha with ha | ha
    · have := of_decide_eq_true (List.mem_filter.1 ha).2
      omega
    · rw [List.mem_singleton] at ha
      omega
theorem sort_ins {l : List Int} (hl : l.Pairwise (· < ·)) {y : Int} (hy : y ∉ l) : sortI (l ++ [y]) = insR l y := by
  have hnd : (l ++ [y]).Nodup := by
    unfold List.Nodup
    rw [List.pairwise_append]
    refine ⟨hl.imp fun {a b} h => by omega, List.pairwise_singleton _ _, fun a ha b hb => ?_⟩
    rw [List.mem_singleton] at hb
    subst hb
    exact fun e => hy (e ▸ ha)
  refine lt_ext (lt_of_nodup (sortI_le _) (sortI_nodup hnd)) (insR_lt hl y) fun z => ?_
  rw [sortI_mem, mem_insR hy, List.mem_append, List.mem_singleton]
  exact or_comm
theorem goodS_ins {a : Aut} {set : List Int} (g : goodS a set) {x : Int} (hx : x ∈ a.alpha) (hn : x ∉ set) : goodS a (insR set x) :=
  ⟨insR_lt g.pw x, fun z hz => by
    rcases (mem_insR hn).1 hz with rfl | hz
    · exact hx
    · exact g.sub z hz⟩
theorem goodS_filter {a : Aut} {set : List Int} (g : goodS a set) (p : Int → Bool) : goodS a (set.filter p) := ⟨g.pw.filter _, fun x hx => g.sub x (List.mem_filter.1 hx).1⟩
theorem ext1_eq {a : Aut} {n : Nat} (h : gAut a n) (hn : n ≤ 5) {un : List Int} (hu : checkSet 32 un none = 0) : ∀ (r set ad : List Int), (∀ x ∈ r, x ∈ a.alpha) → goodS a set → ext1 a un n r set ad = .inr (exl1 a un n r set ad) ∧ goodS a (exl1 a un n r set ad).1 ∧ (bothB a (exl1 a un n r set ad).1 un n = true ∨ ∀ x ∈ r, x ∈ (exl1 a un n r set ad).1) ∧ ∀ x ∈ set, x ∈ (exl1 a un n r set ad).1
  | [], set, ad, _, g => ⟨rfl, g, .inr (by simp), fun x hx => hx⟩
  | x :: r, set, ad, hr, g => by
    have hr2 : ∀ y ∈ r, y ∈ a.alpha := fun y hy => hr y (by simp [hy])
    have hx := hr x (by simp)
    simp only [ext1, exl1, hldR_eq h hn hu g]
    rw [if_neg (fun h => h rfl)]
    by_cases c : bothB a set un n = true
    · rw [if_pos c, if_pos c]
      exact ⟨rfl, g, .inl c, fun x hx => hx⟩
    · rw [if_neg c, if_neg c]
      by_cases c2 : x ∈ set
      · rw [if_pos c2, if_pos c2]
        obtain ⟨h1, h2, h3, h4⟩ := ext1_eq h hn hu r set ad hr2 g
        refine ⟨h1, h2, h3.imp id fun h5 y hy => ?_, h4⟩
        rcases List.mem_cons.1 hy with rfl | hy
        · exact h4 _ c2
        · exact h5 y hy
      · rw [if_neg c2, if_neg c2, sort_ins g.pw c2]
        obtain ⟨h1, h2, h3, h4⟩ := ext1_eq h hn hu r (insR set x) (ad ++ [x]) hr2 (goodS_ins g hx c2)
        refine ⟨h1, h2, h3.imp id fun h5 y hy => ?_, fun y hy => h4 y ((mem_insR c2).2 (.inr hy))⟩
        rcases List.mem_cons.1 hy with rfl | hy
        · exact h4 _ ((mem_insR c2).2 (.inl rfl))
        · exact h5 y hy
theorem ext2_eq {a : Aut} {n : Nat} (h : gAut a n) (hn : n ≤ 5) {un : List Int} (hu : checkSet 32 un none = 0) : ∀ (r set : List Int), goodS a set → ext2 a un n r set = .inr (exl2 a un n r set) ∧ goodS a (exl2 a un n r set) ∧ (bothB a set un n = true → bothB a (exl2 a un n r set) un n = true)
  | [], set, g => ⟨rfl, g, id⟩
  | x :: r, set, g => by
    have e : (set.filter fun y => !(y == x)) = set.filter fun y => y != x := rfl
    have g2 := goodS_filter g fun y => y != x
    simp only [ext2, exl2]
    rw [e, hldR_eq h hn hu g2]
    rw [if_neg (fun h => h rfl)]
    by_cases c : bothB a (set.filter fun y => y != x) un n = true
    · rw [if_pos c]
      obtain ⟨h1, h2, h3⟩ := ext2_eq h hn hu r _ g2
      refine ⟨?_, ?_, fun _ => ?_⟩
      · first | exact h1 | (simp only [c, if_true]; exact h1)
      · exact h2
      · exact h3 c
    · rw [if_neg c]
      obtain ⟨h1, h2, h3⟩ := ext2_eq h hn hu r _ g
      first | exact ⟨h1, h2, h3⟩ | (simp only [c, if_false]; exact ⟨h1, h2, h3⟩)
theorem kept_good {a : Aut} {n : Nat} (h : gAut a n) (on : List Int) : goodS a (keptR a on) := ⟨(checkSet_sorted (chk_parts h.c).1).1.filter _, fun x hx => (List.mem_filter.1 hx).1⟩
theorem both_alpha {a : Aut} {n : Nat} (h : gAut a n) (hn : n ≤ 5) (un : List Int) : bothB a a.alpha un n = true := by
  unfold bothB
  rw [all_obs h hn, all_cs h]
  rfl
theorem ext_eq {a : Aut} {n : Nat} (h : gAut a n) (hn : n ≤ 5) (on : List Int) {un : List Int} (hu : checkSet 32 un none = 0) : extR a on un n = (extL a on un n, 0) ∧ goodS a (extL a on un n) ∧ bothB a (extL a on un n) un n = true := by
  obtain ⟨h1, h2, h3, _⟩ := ext1_eq h hn hu a.alpha (keptR a on) [] (fun _ h => h) (kept_good h on)
  obtain ⟨g1, g2, g3⟩ := ext2_eq h hn hu (exl1 a un n a.alpha (keptR a on) []).2 (exl1 a un n a.alpha (keptR a on) []).1 h2
  refine ⟨?_, g2, g3 ?_⟩
  · unfold extR extL
    rw [h1]
    show exF2 (ext2 a un n _ _) = _
    rw [g1]
    rfl
  · rcases h3 with h3 | h3
    · exact h3
    · have e : (exl1 a un n a.alpha (keptR a on) []).1 = a.alpha := lt_ext h2.pw (checkSet_sorted (chk_parts h.c).1).1 fun x => ⟨h2.sub x, h3 x⟩
      rw [e]
      exact both_alpha h hn un
theorem ext_again {a : Aut} {n : Nat} (h : gAut a n) {l un : List Int} (g : goodS a l) (hb : bothB a l un n = true) : extL a l un n = l := by
  have hk : keptR a l = l := by
    refine lt_ext ((checkSet_sorted (chk_parts h.c).1).1.filter _) g.pw fun x => ?_
    unfold keptR
    rw [List.mem_filter]
    exact ⟨fun h => of_decide_eq_true h.2, fun h => ⟨g.sub x h, decide_eq_true h⟩⟩
  have e1 : exl1 a un n a.alpha l [] = (l, []) := by
    cases a.alpha with
    | nil => rfl
    | cons x r => simp only [exl1]; rw [if_pos hb]
  unfold extL
  rw [hk, e1]
  rfl
end Go.AI


/- Law Extends. -/
namespace Go.AI
open Go.Proofs
set_option maxRecDepth 20000
set_option maxHeartbeats 16000000 in
theorem extendsL3 {g : Nat} (hg : IsTab g) {ty : TypeId} {fr : Nat × Nat} (O : List Heap) (b0 b1 b2 gs gm : Int) (gt : Nat → Int) (hgr : grOkB gs gt) : ASpecT g (ptab ty fr) Tryz.prog 3 [.agg [u8D b0, u8D b1, u8D b2], .agg (grC gs gm gt)] O (bb true) [] O := by
  have hkn := fun O => known11 hg (ty := ty) (fr := fr) O
  obtain ⟨e1, e2, e3⟩ := evs_ok b0
  obtain ⟨hraw, ⟨n, hn, hga⟩, hal⟩ := mkA_ok (gs := gs) (gm := gm) e1 e2 e3 hgr.2
  have hev := fun O b => events13 O b
  have hmk := fun O => make12 O (evsOf b0) gs gm gt e3 hgr.1 hraw.1 hraw.2
  have hol : (evsOf b1).length ≤ max63 := by have := (evs_ok b1).2.2; simp only [max63]; omega
  have hul : (evsOf b2).length ≤ max63 := by have := (evs_ok b2).2.2; simp only [max63]; omega
  have hA : (mkA (evsOf b0) gs gm gt).alpha.length ≤ 32 := by rw [hal]; omega
  have hop := opE_good hga.c (evs_chk b1) (evs_chk b2)
  have hu := evs_chk b2
  generalize mkA (evsOf b0) gs gm gt = a at *
  have hsm := hga.sm
  have hst := hga.st
  obtain ⟨x1, x2, x3⟩ := ext_eq hga hn (evsOf b1) hu
  have hx := fun O => extend14 hg (ty := ty) (fr := fr) O a (evsOf b1) (evsOf b2) n hst hn hsm hol hul hop (by omega)
  rw [x1] at hx
  have hla := fun O => extend16 O a (evsOf b1) (evsOf b2) n hga hn hA hol hul
  generalize extL a (evsOf b1) (evsOf b2) n = l at *
  have hll : l.length ≤ max63 := by
    have := nodup_sub (l := l) (m := a.alpha) (x2.pw.imp fun {a b} h => by omega) x2.sub
    simp only [max63]
    omega
  have hop2 := opE_good hga.c (x2.chk hga) hu
  have hop3 := opE_good hga.c (x2.chk hga) (show checkSet 32 [] none = 0 from rfl)
  have hx2 := fun O => extend14 hg (ty := ty) (fr := fr) O a l (evsOf b2) n hst hn hsm hll hul hop2 (by omega)
  rw [(ext_eq hga hn l hu).1, ext_again hga x2 x3] at hx2
  have ho := fun O => observer17 hg (ty := ty) (fr := fr) O a l n hst hn hsm hll hop3
  rw [obs_eq hga hn] at ho
  have hc := fun O => consistent18 O a l (evsOf b2) n hst (by omega) hsm hll hul hop2
  rw [cs_eq hga hn] at hc
  unfold bothB at x3
  generalize obL a l n (prsR a l n) = R1 at *
  generalize csL a l (evsOf b2) n (prsR a l n) = R2 at *
  obtain ⟨p1, p2, p3⟩ := R1
  obtain ⟨q1, q2, q3⟩ := R2
  simp only [Bool.and_eq_true] at x3
  obtain ⟨y1, y2⟩ := x3
  subst y1
  subst y2
  have hev0 := fun O => hev O b0
  have hev1 := fun O => hev O b1
  have hev2 := fun O => hev O b2
  generalize evsOf b0 = s0 at *
  generalize evsOf b1 = on at *
  generalize evsOf b2 = un at *
  have hs1 := fun O => sameInts36 O l l hll
  obtain ⟨al, st, mk, es⟩ := a
  refine aspecT_stop [] Tk Tryz.func3 rfl Tryz.call3 Tryz.ntmps3 (Nat.le_of_ble_eq_true rfl) fun E hE => ?_
  refine g_run Tk Tryz.func3 ?_
  refine g_callT Tk Tryz.func3 hE (hkn _) rfl rfl rfl rfl rfl rfl ?_
  repeat (first | refine gcT Tk Tryz.func3 rfl ?_ | refine gkT Tk Tryz.func3 rfl ?_ | refine skT Tk ?_ | refine gcF Tk Tryz.func3 rfl ?_ | refine gkF Tk Tryz.func3 rfl ?_ | refine skF Tk ?_)
  refine g_drawn Tk Tryz.func3 mixedT rfl ?_
  first | refine g_need Tk Tryz.func3 (by decide) ?_ | refine s_need Tk (by decide) ?_
  first | refine g_call Tk Tryz.func3 (hev0 _) rfl rfl rfl rfl rfl ?_ | refine s_callq Tk (fun _ => hev0 _) rfl rfl rfl ?_
  first | refine g_call Tk Tryz.func3 (hmk _) rfl rfl rfl rfl rfl ?_ | refine s_callq Tk (fun _ => hmk _) rfl rfl rfl ?_
  first | refine g_need Tk Tryz.func3 (by decide) ?_ | refine s_need Tk (by decide) ?_
  first | refine g_call Tk Tryz.func3 (hev1 _) rfl rfl rfl rfl rfl ?_ | refine s_callq Tk (fun _ => hev1 _) rfl rfl rfl ?_
  first | refine g_need Tk Tryz.func3 (by decide) ?_ | refine s_need Tk (by decide) ?_
  first | refine g_call Tk Tryz.func3 (hev2 _) rfl rfl rfl rfl rfl ?_ | refine s_callq Tk (fun _ => hev2 _) rfl rfl rfl ?_
  refine s_old Tk ?_
  refine d_mod Tk (p := ⟨[], [(5, .box [ints al, ii st, ints mk, edgs es])], none⟩) rfl rfl rfl ?_
  refine d_done Tk Tryz.func3 (by kernel_rfl) (GM.h ?_)
  refine g_callT Tk Tryz.func3 hE (hx _) rfl rfl rfl rfl rfl rfl ?_
  first | refine g_call Tk Tryz.func3 (hla _) rfl rfl rfl rfl rfl ?_ | refine s_callq Tk (fun _ => hla _) rfl rfl rfl ?_
  first | refine g_call Tk Tryz.func3 (hs1 _) rfl rfl rfl rfl rfl ?_ | refine s_callq Tk (fun _ => hs1 _) rfl rfl rfl ?_
  first | refine g_cnd Tk Tryz.func3 rfl (fun c2 => ?_) (fun c2 => ?_) | refine g_know Tk Tryz.func3 rfl (fun c2 => ?_) (fun c2 => ?_) | refine s_know Tk (fun c2 => ?_) (fun c2 => ?_)
  · exact absurd c2 (by simp)
  repeat (first | refine gcT Tk Tryz.func3 rfl ?_ | refine gkT Tk Tryz.func3 rfl ?_ | refine skT Tk ?_ | refine gcF Tk Tryz.func3 rfl ?_ | refine gkF Tk Tryz.func3 rfl ?_ | refine skF Tk ?_)
  refine g_callT Tk Tryz.func3 hE (hx2 _) rfl rfl rfl rfl rfl rfl ?_
  refine g_callT Tk Tryz.func3 hE (ho _) rfl rfl rfl rfl rfl rfl ?_
  first | refine g_call Tk Tryz.func3 (hc _) rfl rfl rfl rfl rfl ?_ | refine s_callq Tk (fun _ => hc _) rfl rfl rfl ?_
  repeat (first | refine gcT Tk Tryz.func3 rfl ?_ | refine gkT Tk Tryz.func3 rfl ?_ | refine skT Tk ?_ | refine gcF Tk Tryz.func3 rfl ?_ | refine gkF Tk Tryz.func3 rfl ?_ | refine skF Tk ?_)
  first | refine g_call Tk Tryz.func3 (hs1 _) rfl rfl rfl rfl rfl ?_ | refine s_callq Tk (fun _ => hs1 _) rfl rfl rfl ?_
  first | refine g_cnd Tk Tryz.func3 rfl (fun c3 => ?_) (fun c3 => ?_) | refine g_know Tk Tryz.func3 rfl (fun c3 => ?_) (fun c3 => ?_) | refine s_know Tk (fun c3 => ?_) (fun c3 => ?_)
  rotate_left
  · exact absurd c3 (by simp)
  repeat (first | refine gcT Tk Tryz.func3 rfl ?_ | refine gkT Tk Tryz.func3 rfl ?_ | refine skT Tk ?_ | refine gcF Tk Tryz.func3 rfl ?_ | refine gkF Tk Tryz.func3 rfl ?_ | refine skF Tk ?_)
  refine g_ret Tk (r := bb true) rfl rfl rfl trivial rfl rfl ?_
  rfl
end Go.AI
