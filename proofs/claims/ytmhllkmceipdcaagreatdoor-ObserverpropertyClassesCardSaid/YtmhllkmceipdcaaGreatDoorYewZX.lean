/- The layer of abstract runs, part 50. -/
import Derived.Test.YtmhllkmceipdcaaGreatDoorYewZW
set_option linter.unusedSimpArgs false
set_option linter.unusedVariables false
set_option linter.all false

namespace Go.AI
def badK (a : Aut) (x y : List Int) : Bool := (decide (x.length = 0) != decide (y.length = 0)) || (marksR a x != marksR a y)
theorem runG_nxtL {es : List Edg} {p : Int → Bool} {n : Nat} {kp : List Int} : ∀ {w : List Int} {x y : PS}, runG (stepP es p n) someP (fun _ => kp) x w = some y → (∀ ev ∈ w, ev ∈ kp) ∧ y = (nxtL es p n x.1 w, nxtL es p n x.2 w)
  | [], x, y, h => by
    simp only [runG, Option.some.injEq] at h
    subst h
    exact ⟨by simp, rfl⟩
  | ev :: w, x, y, h => by
    simp only [runG] at h
    by_cases c : ev ∈ kp ∧ someP (stepP es p n x ev) = true
    · rw [if_pos c] at h
      obtain ⟨h1, h2⟩ := runG_nxtL h
      refine ⟨fun e he => ?_, h2⟩
      rcases List.mem_cons.1 he with rfl | he
      · exact c.1
      · exact h1 e he
    · rw [if_neg c] at h; cases h
theorem dif_iff {a : Aut} {on un A B : List Int} {n : Nat} (hn : n ≤ 5) (hA : A ∈ subs n) (hB : B ∈ subs n) :
    (difR a on un n (badK a) A B).isSome = false ↔ ∀ t, (∀ ev ∈ t, ev ∈ keptR a on) → badK a (nxtL a.edges (lowP on un false) n A t) (nxtL a.edges (lowP on un false) n B t) = false := by
  have hsi := stepP_in a.edges (lowP on un false) n
  have hVl := pairsV_len hn
  have hB0 : bOk (pairsV n) [((A, B), ([] : List Int))] := bOk_one (mem_pairsV.2 ⟨hA, hB⟩)
  unfold difR
  rw [bsr_find (V := pairsV n) (N := 4096) (fun x _ ev _ _ => hsi x ev) (by omega) 4096 0 _ rfl (by simp) hB0 (by simp)]
  have hcl := bfull_closed (V := pairsV n) (nx := stepP a.edges (lowP on un false) n) (ok := someP) (evs := fun _ => keptR a on) (N := 4096) (fun x _ ev _ _ => hsi x ev) (by omega) 4096 0 _ rfl (by simp) hB0 (by simp)
  have hpre := bfull_pre (stepP a.edges (lowP on un false) n) someP (fun _ => keptR a on) 4096 0 [((A, B), [])]
  have hrun := bfull_run (nx := stepP a.edges (lowP on un false) n) (ok := someP) (evs := fun _ => keptR a on) (x0 := (A, B)) 4096 0 [((A, B), [])] (by simp [runG])
  generalize bfull (stepP a.edges (lowP on un false) n) someP (fun _ => keptR a on) 4096 0 [((A, B), [])] = L at *
  constructor
  · intro h
    have hno : ∀ z ∈ L, ¬ badK a z.1.1 z.1.2 = true := by
      have : L.find? (fun z => badK a z.1.1 z.1.2) = none := by simpa using h
      exact List.find?_eq_none.1 this
    have key : ∀ (t : List Int) (x : PS), (∀ ev ∈ t, ev ∈ keptR a on) → (∃ w ∈ L, w.1 = x) → badK a (nxtL a.edges (lowP on un false) n x.1 t) (nxtL a.edges (lowP on un false) n x.2 t) = false := by
      intro t
      induction t with
      | nil =>
        rintro x _ ⟨w, hw, rfl⟩
        have := hno w hw
        show badK a w.1.1 w.1.2 = false
        simpa using this
      | cons ev r ih =>
        rintro x hk ⟨w, hw, rfl⟩
        show badK a (nxtL a.edges (lowP on un false) n (nxt a.edges (lowP on un false) n w.1.1 ev) r) (nxtL a.edges (lowP on un false) n (nxt a.edges (lowP on un false) n w.1.2 ev) r) = false
        by_cases c : someP (stepP a.edges (lowP on un false) n w.1 ev) = true
        · obtain ⟨u, hu, e⟩ := hcl w hw ev (hk ev (by simp)) c
          exact ih (stepP a.edges (lowP on un false) n w.1 ev) (fun e he => hk e (by simp [he])) ⟨u, hu, e⟩
        · have c : ¬ decide ((nxt a.edges (lowP on un false) n w.1.1 ev).length + (nxt a.edges (lowP on un false) n w.1.2 ev).length > 0) = true := c
          have c := of_decide_eq_false (by simpa using c : decide ((nxt a.edges (lowP on un false) n w.1.1 ev).length + (nxt a.edges (lowP on un false) n w.1.2 ev).length > 0) = false)
          have e1 : nxt a.edges (lowP on un false) n w.1.1 ev = [] := List.eq_nil_of_length_eq_zero (by omega)
          have e2 : nxt a.edges (lowP on un false) n w.1.2 ev = [] := List.eq_nil_of_length_eq_zero (by omega)
          rw [e1, e2, nxtL_nil]
          rfl
    exact fun t ht => key t (A, B) ht ⟨((A, B), []), hpre.subset (List.mem_singleton.2 rfl), rfl⟩
  · intro h
    have : L.find? (fun z => badK a z.1.1 z.1.2) = none := List.find?_eq_none.2 fun z hz => by
      obtain ⟨h1, h2⟩ := runG_nxtL (hrun z hz)
      rw [h2, h _ h1]
      simp
    rw [show (fun z : PS × List Int => (fun y : PS => badK a y.1 y.2) z.1) = fun z => badK a z.1.1 z.1.2 from rfl, this]
    rfl
def swp (s x : Int) : Int := if x = 0 then s else if x = s then 0 else x
theorem swp_swp (s x : Int) : swp s (swp s x) = x := by
  unfold swp
  by_cases h1 : x = 0
  · rw [if_pos h1]
    by_cases h2 : s = 0
    · rw [if_pos h2]; omega
    · rw [if_neg h2, if_pos rfl]; omega
  · rw [if_neg h1]
    by_cases h2 : x = s
    · rw [if_pos h2, if_pos rfl]; omega
    · rw [if_neg h2, if_neg h1, if_neg h2]
theorem swp_in {s x : Int} {n : Nat} (hs : 0 ≤ s ∧ s < (n : Int)) (hx : 0 ≤ x ∧ x < (n : Int)) : 0 ≤ swp s x ∧ swp s x < (n : Int) := by
  unfold swp
  split
  · exact hs
  · split
    · omega
    · exact hx
def frE (a : Aut) (s : Int) (i : Nat) : List Edg := a.alpha.filterMap fun ev => if 0 ≤ stp3 a.edges (swp s i) ev then some ((i : Int), ev, swp s (stp3 a.edges (swp s i) ev)) else none
def frA (a : Aut) (n : Nat) (s : Int) : Aut := ⟨a.alpha, n, (intsV n).filter fun i => decide (swp s i ∈ a.marked), (List.range n).flatMap (frE a s)⟩
theorem mem_frE {a : Aut} {s : Int} {i : Nat} {e : Edg} : e ∈ frE a s i ↔ e.1 = i ∧ e.2.1 ∈ a.alpha ∧ 0 ≤ stp3 a.edges (swp s i) e.2.1 ∧ e.2.2 = swp s (stp3 a.edges (swp s i) e.2.1) := by
  unfold frE
  rw [List.mem_filterMap]
  constructor
  · rintro ⟨ev, h1, h2⟩
    by_cases c : 0 ≤ stp3 a.edges (swp s i) ev
    · rw [if_pos c] at h2
      obtain rfl := Option.some.inj h2
      exact ⟨rfl, h1, c, rfl⟩
    · rw [if_neg c] at h2; cases h2
  · rintro ⟨h1, h2, h3, h4⟩
    refine ⟨e.2.1, h2, ?_⟩
    rw [if_pos h3]
    obtain ⟨e1, e2, e3⟩ := e
    simp only at h1 h4 ⊢
    rw [h1, h4]
theorem stp3_mem : ∀ {es : List Edg} {s ev : Int}, 0 ≤ stp3 es s ev → (s, ev, stp3 es s ev) ∈ es
  | [], s, ev, h => by
    unfold stp3 at h
    exact absurd h (by decide)
  | x :: r, s, ev, h => by
    unfold stp3 at h ⊢
    by_cases c : x.1 = s ∧ x.2.1 = ev
    · rw [if_pos c]
      obtain ⟨x1, x2, x3⟩ := x
      obtain ⟨rfl, rfl⟩ := c
      simp
    · rw [if_neg c] at h ⊢
      exact List.mem_cons_of_mem _ (stp3_mem h)
theorem fr_edge {a : Aut} {n : Nat} (h : gAut a n) {s : Int} (hs : 0 ≤ s ∧ s < (n : Int)) {i ev j : Int} : (i, ev, j) ∈ (frA a n s).edges ↔ (swp s i, ev, swp s j) ∈ a.edges := by
  show (i, ev, j) ∈ (List.range n).flatMap (frE a s) ↔ _
  rw [List.mem_flatMap]
  constructor
  · rintro ⟨k, hk, he⟩
    obtain ⟨h1, h2, h3, h4⟩ := mem_frE.1 he
    simp only at h1 h2 h3 h4
    subst h1
    rw [h4, swp_swp]
    exact stp3_mem h3
  · intro he
    have hf := h.fr _ he
    have ht := h.to _ he
    have hev := h.ev _ he
    simp only at hf ht hev
    have hi := swp_in hs hf
    rw [swp_swp] at hi
    refine ⟨i.toNat, List.mem_range.2 (by omega), mem_frE.2 ?_⟩
    have e : ((i.toNat : Nat) : Int) = i := by omega
    have h2 := stp3_of h.pw he
    simp only at h2
    simp only
    rw [e, h2, swp_swp]
    exact ⟨rfl, hev, ht.1, rfl⟩
theorem fr_mark {a : Aut} {n : Nat} {s x : Int} : x ∈ (frA a n s).marked ↔ (0 ≤ x ∧ x < (n : Int)) ∧ swp s x ∈ a.marked := by
  show x ∈ (intsV n).filter _ ↔ _
  rw [List.mem_filter, decide_eq_true_eq]
  have : x ∈ intsV n ↔ 0 ≤ x ∧ x < (n : Int) := by
    unfold intsV
    rw [List.mem_map]
    constructor
    · rintro ⟨k, hk, rfl⟩
      have := List.mem_range.1 hk
      omega
    · intro hx
      exact ⟨x.toNat, List.mem_range.2 (by omega), by omega⟩
  rw [this]
theorem frE_len (a : Aut) (s : Int) (i : Nat) : (frE a s i).length ≤ a.alpha.length := List.length_filterMap_le _ _
theorem fr_len (a : Aut) (s : Int) : ∀ n, ((List.range n).flatMap (frE a s)).length ≤ n * a.alpha.length
  | 0 => by simp
  | n + 1 => by
    rw [List.range_succ, List.flatMap_append, List.length_append, List.flatMap_cons, List.flatMap_nil, List.append_nil]
    have := fr_len a s n
    have := frE_len a s n
    rw [Nat.add_mul]
    omega
theorem fr_ok {a : Aut} {n : Nat} (h : gAut a n) (hn : n ≤ 5) {s : Int} (hs : 0 ≤ s ∧ s < (n : Int)) : gAut (frA a n s) n := by
  obtain ⟨c1, c2, c3, c4⟩ := chk_parts h.c
  have hal := checkSet_len (by decide) c1
  have hal : a.alpha.length ≤ 32 := by omega
  have hpw := (checkSet_sorted c1).1
  have hl := fr_len a s n
  have hl2 : n * a.alpha.length ≤ 5 * 32 := Nat.mul_le_mul hn hal
  have hm : (frA a n s).marked.length ≤ n := Nat.le_trans (List.length_filter_le _ _) (by simp [intsV])
  refine ⟨rfl, ⟨?_, h.sm.al, by omega⟩, chkA_of c1 ?_ ?_ ?_⟩
  · show ((List.range n).flatMap (frE a s)).length ≤ 1000000
    omega
  · show (0 : Int) ≤ (n : Int) ∧ (n : Int) ≤ 4096
    omega
  · refine checkSet_of ?_ (fun x hx => ?_) (fun y e => by cases e)
    · show ((intsV n).filter _).Pairwise _
      refine List.Pairwise.filter _ ?_
      unfold intsV
      rw [List.pairwise_map]
      exact List.pairwise_lt_range.imp fun {a b} h => by omega
    · exact (fr_mark.1 hx).1
  · refine chkEds_of (rows_lt (fun i x hx => (mem_frE.1 hx).1) (fun i => ?_) _) (fun x hx => ?_) (fun y e => by cases e)
    · unfold frE
      refine List.Pairwise.filterMap _ (fun p q hpq x hx y hy => ?_) hpw
      by_cases cp : 0 ≤ stp3 a.edges (swp s i) p
      · by_cases cq : 0 ≤ stp3 a.edges (swp s i) q
        · rw [if_pos cp] at hx
          rw [if_pos cq] at hy
          obtain rfl := Option.some.inj hx
          obtain rfl := Option.some.inj hy
          exact hpq
        · rw [if_neg cq] at hy; cases hy
      · rw [if_neg cp] at hx; cases hx
    · have hx : (x.1, x.2.1, x.2.2) ∈ (frA a n s).edges := hx
      have he := (fr_edge h hs).1 hx
      have h1 := swp_in hs (h.fr _ he)
      have h2 := swp_in hs (h.to _ he)
      simp only [swp_swp] at h1 h2
      have h3 := h.ev _ he
      exact ⟨h1, h2, h3⟩
structure Sm (n : Nat) (s : Int) (E A : List Int) : Prop where
  rel : ∀ x, 0 ≤ x → x < (n : Int) → (x ∈ E ↔ swp s x ∈ A)
  rE : ∀ x ∈ E, 0 ≤ x ∧ x < (n : Int)
  rA : ∀ x ∈ A, 0 ≤ x ∧ x < (n : Int)
section
variable {a : Aut} {n : Nat} {s : Int} (h : gAut a n) (hn : n ≤ 5) (hs : 0 ≤ s ∧ s < (n : Int))
include h hs
theorem fr_rc {p : Int → Bool} {L M : List Int} (hm : Sm n s L M) {x : Int} : Rc (frA a n s).edges p L x ↔ Rc a.edges p M (swp s x) := by
  constructor
  · intro hr
    induction hr with
    | base hx => exact .base ((hm.rel _ (hm.rE _ hx).1 (hm.rE _ hx).2).1 hx)
    | @step e _ he hp ih => exact .step (e := (swp s e.1, e.2.1, swp s e.2.2)) ih ((fr_edge h hs).1 he) hp
  · intro hr
    have key : ∀ y, Rc a.edges p M y → Rc (frA a n s).edges p L (swp s y) := by
      intro y hy
      induction hy with
      | @base y hy =>
        have := swp_in hs (hm.rA _ hy)
        exact .base ((hm.rel _ this.1 this.2).2 (by rw [swp_swp]; exact hy))
      | @step e _ he hp ih => exact .step (e := (swp s e.1, e.2.1, swp s e.2.2)) ih ((fr_edge h hs).2 (by rw [swp_swp, swp_swp]; exact he)) hp
    have := key _ hr
    rwa [swp_swp] at this
include hn
theorem sm_clo (p : Int → Bool) {L M : List Int} (hm : Sm n s L M) : Sm n s (clo (frA a n s).edges p n L) (clo a.edges p n M) := by
  have hf := (fr_ok h hn hs).to
  refine ⟨fun x h0 h1 => ?_, fun x hx => ((mem_clo hf).1 hx).1, fun x hx => ((mem_clo h.to).1 hx).1⟩
  rw [mem_clo hf, mem_clo h.to, fr_rc h hs hm]
  have := swp_in hs ⟨h0, h1⟩
  exact ⟨fun hx => ⟨this, hx.2⟩, fun hx => ⟨⟨h0, h1⟩, hx.2⟩⟩
theorem sm_nxt (p : Int → Bool) {E A : List Int} (hm : Sm n s E A) (ev : Int) : Sm n s (nxt (frA a n s).edges p n E ev) (nxt a.edges p n A ev) := by
  have hf := (fr_ok h hn hs).to
  unfold nxt
  refine sm_clo h hn hs p ⟨fun x h0 h1 => ?_, fun x hx => ?_, fun x hx => ?_⟩
  · rw [mem_tgtE, mem_tgtE]
    constructor
    · rintro ⟨e, he, h2, h3, h4⟩
      subst h4
      exact ⟨(swp s e.1, e.2.1, swp s e.2.2), (fr_edge h hs).1 he, (hm.rel _ (hm.rE _ h2).1 (hm.rE _ h2).2).1 h2, h3, rfl⟩
    · rintro ⟨e, he, h2, h3, h4⟩
      have hr := swp_in hs (hm.rA _ h2)
      refine ⟨(swp s e.1, e.2.1, swp s e.2.2), (fr_edge h hs).2 (by rw [swp_swp, swp_swp]; exact he), (hm.rel _ hr.1 hr.2).2 (by rw [swp_swp]; exact h2), h3, ?_⟩
      simp only
      rw [h4, swp_swp]
  · obtain ⟨e, he, _, _, rfl⟩ := mem_tgtE.1 hx
    exact hf e he
  · obtain ⟨e, he, _, _, rfl⟩ := mem_tgtE.1 hx
    exact h.to e he
theorem sm_nxtL (p : Int → Bool) : ∀ (t : List Int) {E A : List Int}, Sm n s E A → Sm n s (nxtL (frA a n s).edges p n E t) (nxtL a.edges p n A t)
  | [], E, A, hm => hm
  | ev :: r, E, A, hm => sm_nxtL p r (sm_nxt h hn hs p hm ev)
omit h hn
theorem sm_nil {E A : List Int} (hm : Sm n s E A) : decide (E.length = 0) = decide (A.length = 0) := by
  refine decide_eq_decide.2 ⟨fun e => ?_, fun e => ?_⟩
  · have e := List.eq_nil_of_length_eq_zero e
    subst e
    cases A with
    | nil => rfl
    | cons y r =>
      have hy := hm.rA y (by simp)
      have hr := swp_in hs hy
      have := (hm.rel _ hr.1 hr.2).2 (by rw [swp_swp]; simp)
      cases this
  · have e := List.eq_nil_of_length_eq_zero e
    subst e
    cases E with
    | nil => rfl
    | cons y r =>
      have hy := hm.rE y (by simp)
      have := (hm.rel _ hy.1 hy.2).1 (by simp)
      cases this
theorem sm_marks {E A : List Int} (hm : Sm n s E A) : marksR (frA a n s) E = marksR a A := by
  refine Bool.eq_iff_iff.2 ?_
  show (E.any fun x => decide (x ∈ (frA a n s).marked)) = true ↔ (A.any fun x => decide (x ∈ a.marked)) = true
  simp only [List.any_eq_true, decide_eq_true_eq]
  constructor
  · rintro ⟨x, hx, hk⟩
    have hr := hm.rE x hx
    exact ⟨swp s x, (hm.rel _ hr.1 hr.2).1 hx, (fr_mark.1 hk).2⟩
  · rintro ⟨x, hx, hk⟩
    have hr := swp_in hs (hm.rA x hx)
    exact ⟨swp s x, (hm.rel _ hr.1 hr.2).2 (by rw [swp_swp]; exact hx), fr_mark.2 ⟨hr, by rw [swp_swp]; exact hk⟩⟩
theorem sm_one : Sm n s [0] [s] := by
  refine ⟨fun x h0 h1 => ?_, fun x hx => ?_, fun x hx => ?_⟩
  · rw [List.mem_singleton, List.mem_singleton]
    unfold swp
    constructor
    · intro e; rw [if_pos e]
    · intro e
      split at e
      · assumption
      · split at e
        · omega
        · omega
  · rw [List.mem_singleton] at hx; subst hx; omega
  · rw [List.mem_singleton] at hx; subst hx; exact hs
end
def badX (b c : Aut) (x y : List Int) : Bool := (decide (x.length = 0) != decide (y.length = 0)) || (marksR b x != marksR c y)
theorem alike_iff {a : Aut} {n : Nat} (h : gAut a n) (hn : n ≤ 5) {x y : Int} (hx : 0 ≤ x ∧ x < (n : Int)) (hy : 0 ≤ y ∧ y < (n : Int)) (on : List Int) :
    (difR a on [] n (badK a) (clo a.edges (lowP on [] false) n [x]) (clo a.edges (lowP on [] false) n [y])).isSome = false ↔
      ∀ t, (∀ ev ∈ t, ev ∈ keptR a on) → badX (frA a n x) (frA a n y) (nxtL (frA a n x).edges (lowP on [] false) n (clo (frA a n x).edges (lowP on [] false) n [0]) t) (nxtL (frA a n y).edges (lowP on [] false) n (clo (frA a n y).edges (lowP on [] false) n [0]) t) = false := by
  have hs : ∀ l, clo a.edges (lowP on [] false) n l ∈ subs n := fun l => sorted_subs _ _
  rw [dif_iff hn (hs _) (hs _)]
  refine forall_congr' fun t => imp_congr_right fun ht => ?_
  have h1 := sm_nxtL h hn hx (lowP on [] false) t (sm_clo h hn hx (lowP on [] false) (sm_one hx))
  have h2 := sm_nxtL h hn hy (lowP on [] false) t (sm_clo h hn hy (lowP on [] false) (sm_one hy))
  unfold badX badK
  rw [sm_nil hx h1, sm_nil hy h2, sm_marks hx h1, sm_marks hy h2]
end Go.AI


namespace Go.AI
open Go.Proofs
section
variable {E0 E : Env} {K : Kn} {ρ : Nat → Nat → Loc} {H : Heap} {O : List Heap} {w : World}
theorem objAt_killH {nm d n : Nat} {ob : Ob} (e : objAt (killH nm H :: O) d n = some ob) : ∃ o0, objAt (H :: O) d n = some o0 ∧ ¬ (d = 0 ∧ n = nm) ∧ (∀ l, backed l ob ↔ backed l o0) ∧ (d = 0 → ob = o0.kill nm) ∧ (d ≠ 0 → ob = o0) := by
  cases d with
  | zero =>
    simp only [objAt, List.getElem?_cons_zero, look_killH] at e
    split at e
    · cases e
    · rename_i hn
      cases hl : look H n with
      | none => simp [hl] at e
      | some o0 =>
        simp only [hl, Option.map_some, Option.some.injEq] at e
        subst e
        exact ⟨o0, by simpa [objAt] using hl, fun h => hn h.2, fun l => backed_kill _ _ _, fun _ => rfl, fun h => absurd rfl h⟩
  | succ d => exact ⟨ob, by simpa [objAt] using e, fun h => by omega, fun _ => Iff.rfl, fun h => by omega, fun _ => rfl⟩
theorem HInv.dropNm (nm : Nat) (h : HInv E K ρ (H :: O) w) : HInv E K ρ (killH nm H :: O) w := by
  have e0 : (fun d n => ρ (0 + d) n) = ρ := by funext d n; rw [Nat.zero_add]
  refine ⟨h.holds, fun d n ob e => ?_, fun d n1 o1 d' n2 o2 e1 e2 b1 b2 hbe => ?_, h.size, fun b hb hno => h.old b hb fun d n ob e => hno d n ob (by simpa [objAt] using e), fun n ob e hb => ?_, h.outer, h.Kle, h.Knew, h.rest⟩
  · obtain ⟨o0, a1, a2, a3, a4, a5⟩ := objAt_killH e
    have hs := h.own d n o0 a1
    cases d with
    | zero =>
      rw [a4 rfl]
      rw [e0, List.drop_zero] at hs
      rw [e0, List.drop_zero]
      exact hs.kill (but_kill nm) (fun _ => rfl)
    | succ d =>
      rw [a5 (by omega)]
      exact hs
  · obtain ⟨p1, a1, _, a3, _⟩ := objAt_killH e1
    obtain ⟨p2, c1, _, c3, _⟩ := objAt_killH e2
    exact h.inj _ _ _ _ _ _ a1 c1 ((a3 _).1 b1) ((c3 _).1 b2) hbe
  · obtain ⟨p1, a1, _, a3, _⟩ := objAt_killH e
    exact h.loc _ _ a1 ((a3 _).1 hb)
def reE (E : Env) (K : Kn) (w : World) (q : Nat → Prop) (hq : ∀ b, q b → b < w.heap.size) (hs : E.w0.heap.size ≤ w.heap.size) : Env :=
  { K0 := K, ρ0 := E.ρ0, w0 := w, pr := fun b => E.pr b ∨ q b, lt := fun b hb => by rcases hb with h | h; exact Nat.lt_of_lt_of_le (E.lt b h) hs; exact hq b h }
theorem HInv.rebase {S : List Heap} (h : HInv E K ρ S w) {q : Nat → Prop} (hq : ∀ b, q b → b < w.heap.size) (hfree : ∀ nm ob b, q b → objAt S 0 nm = some ob → backed (ρ 0 nm) ob → (ρ 0 nm).block ≠ b) : HInv (reE E K w q hq h.size) K ρ S w :=
  ⟨h.holds, h.own, h.inj, Nat.le_refl _, fun _ _ _ => rfl, fun nm ob e hb hp => by
    rcases hp with hp | hp
    · exact h.loc _ _ e hb hp
    · exact hfree nm ob _ hp e hb rfl, h.outer, Kn.le_refl _, fun _ _ _ e => .inl e, ⟨rfl, rfl, rfl⟩⟩
theorem RowOf.move {ty es : Nat} {v : Value} {xs : List (List I)} (h : RowOf E0 E O ty es v xs) (hh : HInv E K ρ (H :: O) w) (hb : Base E0 E O) {q : Nat → Prop} (hq : ∀ b, q b → b < w.heap.size) : RowOf E0 (reE E K w q hq hh.size) O ty es v xs := by
  cases h with
  | nil => exact .nil
  | row hn hd hp hp0 ho hc hs hcap hm hr hk hk' =>
    rename_i b n cap c
    have hw : w.heap[b]? = E.w0.heap[b]? := hh.old b hp (hh.outerNe hb ho)
    have hKE : ∀ o, K b o = E.K0 b o := by
      intro o
      cases hk2 : K b o with
      | none =>
        cases hk3 : E.K0 b o with
        | none => rfl
        | some x => rw [hh.Kle _ _ _ hk3] at hk2; cases hk2
      | some x =>
        rcases hh.Knew b o x hk2 with h1 | h1
        · rw [h1]
        · exact absurd hp h1
    exact .row hn hd (.inl hp) hp0 ho (by show w.heap[b]? = _; rw [hw]; exact hc) hs hcap hm (hr.mono hh.Kle) (fun o ho => by show K b o = _; rw [hKE]; exact hk o ho) fun o ho => by show K b o = _; rw [hKE]; exact hk' o ho
theorem base_re (hh : HInv E K ρ (H :: O) w) (hb : Base E0 E O) {q : Nat → Prop} (hq : ∀ b, q b → b < w.heap.size) : Base E0 (reE E K w q hq hh.size) O := by
  refine ⟨Kn.le_trans hb.K hh.Kle, hb.ρ, fun b hp => .inl (hb.pr b hp), fun b o x e => ?_, Nat.le_trans hb.size hh.size, fun b hp ho => ?_, ?_⟩
  · rcases hh.Knew b o x e with h1 | h1
    · exact hb.new b o x h1
    · exact .inr fun hp => h1 (hb.pr b hp)
  · show w.heap[b]? = _
    rw [hh.old b (hb.pr b hp) (hh.outerNe hb ho)]
    exact hb.old b hp ho
  · show w.tape = _ ∧ w.os = _ ∧ w.output = _
    exact ⟨hh.rest.1.trans hb.rest.1, hh.rest.2.1.trans hb.rest.2.1, hh.rest.2.2.trans hb.rest.2.2⟩
theorem give_row {ty es n nm : Nat} {xs : List (List I)} {wr : Bool} {vs : List Value} {xss : List (List (List I))} (h : HInv E K ρ (H :: O) w) (ho : look H nm = some (.arr ty es n xs wr)) (hR : RowsO E0 E O ty es vs xss) (hcap : (ρ 0 nm).cap ≤ maxLen) :
    ∃ E' K', K.le K' ∧ HInv E' K' ρ (killH nm H :: O) w ∧ RowsO E0 E' O ty es (vs ++ [.slice (ρ 0 nm).base n (ρ 0 nm).cap]) (xss ++ [xs]) := by
  obtain ⟨K', hle, hF⟩ := h.freeze ho
  have hown := hF.own 0 nm (.arr ty es n xs false) (by simp [objAt, look_cons])
  have e0 : (fun d n => ρ (0 + d) n) = ρ := by funext d n; rw [Nat.zero_add]
  rw [e0] at hown
  obtain ⟨h1, h2, h3, h4, h5⟩ := hown
  have hD := hF.dropNm nm
  have ek : killH nm ((nm, .arr ty es n xs false) :: H) = killH nm H := by simp [killH]
  rw [ek] at hD
  have ho' : objAt (H :: O) 0 nm = some (.arr ty es n xs wr) := by simpa [objAt] using ho
  have hlt : ∀ b, ((ρ 0 nm).base ≠ none ∧ b = (ρ 0 nm).block) → b < w.heap.size := by
    rintro b ⟨hb, rfl⟩
    exact (h.own 0 nm _ ho').lt hb
  have hfree : ∀ nm' ob b, ((ρ 0 nm).base ≠ none ∧ b = (ρ 0 nm).block) → objAt (killH nm H :: O) 0 nm' = some ob → backed (ρ 0 nm') ob → (ρ 0 nm').block ≠ b := by
    rintro nm' ob b ⟨hb, rfl⟩ e hbk hbe
    obtain ⟨o0, a1, a2, a3, _⟩ := objAt_killH e
    exact a2 (h.inj _ _ _ _ _ _ a1 ho' ((a3 _).1 hbk) hb hbe)
  have hI := hD.rebase hlt hfree
  have hB := base_re hD hR.base hlt
  have hold := fun v xs (hr : RowOf E0 E O ty es v xs) => hr.move hD hR.base hlt
  have hblk : ∀ (b : Nat), (ρ 0 nm).base ≠ none → (ρ 0 nm).block = b → ¬ E.pr b := fun b hb e hp => h.loc nm _ ho' hb (e ▸ hp)
  have hrow : RowOf E0 (reE E K' w _ hlt hD.size) O ty es (.slice (ρ 0 nm).base n (ρ 0 nm).cap) xs := by
    rcases h5 with ⟨c0, c1⟩ | ⟨c1, cl, h6, h7, h8, h9, h10, h11⟩
    · have hn0 : n = 0 := by omega
      subst hn0
      have : xs = [] := List.eq_nil_of_length_eq_zero h2
      subst this
      have ev : Value.slice (ρ 0 nm).base 0 (ρ 0 nm).cap = .slice none 0 0 := by rw [c0, c1]
      rw [ev]
      exact .nil
    · have ev : Value.slice (ρ 0 nm).base n (ρ 0 nm).cap = .slice (some ⟨(ρ 0 nm).block, 0, none⟩) n (ρ 0 nm).cap := by rw [c1]
      rw [ev]
      have hb : (ρ 0 nm).base ≠ none := by rw [c1]; simp
      refine .row h2 h1 (.inr ⟨hb, rfl⟩) (fun hp => hblk _ hb rfl (hR.base.pr _ hp)) (fun dep nm' ob e hbk hbe => ?_) h6 h7 h3 h4 h8 (fun o hlo => h11 rfl o hlo) (fun o hlo => h10 o hlo)
      have e2 : ρ (dep + 1) = E0.ρ0 dep := by rw [h.outer, hR.base.ρ]
      have := h.inj (dep + 1) nm' ob 0 nm _ (by simpa [objAt] using e) ho' (by rw [e2]; exact hbk) hb (by rw [e2]; exact hbe)
      omega
  refine ⟨_, K', hle, hI, hB, by simp [hR.len], fun j v xs' e1 e2 => ?_, fun i j v v' b hij e1 e2 hb1 hb2 => ?_⟩
  · rw [List.getElem?_append] at e1 e2
    by_cases hj : j < vs.length
    · rw [if_pos hj] at e1
      rw [if_pos (by rw [← hR.len]; exact hj)] at e2
      exact hold _ _ (hR.row j v xs' e1 e2)
    · rw [if_neg hj] at e1
      rw [if_neg (by rw [← hR.len]; exact hj)] at e2
      have hj2 := (List.getElem?_eq_some_iff.1 e1).1
      have hj0 : j - vs.length = 0 := by simpa using hj2
      rw [← hR.len] at e2
      rw [hj0] at e1 e2
      simp only [List.getElem?_cons_zero, Option.some.injEq] at e1 e2
      subst e1; subst e2
      exact hrow
  · have hpr : ∀ (j : Nat) (v : Value) (b : Nat), vs[j]? = some v → v.ownBlock = some b → E.pr b := by
      intro j v b e hb
      have hjl : j < xss.length := by rw [← hR.len]; exact (List.getElem?_eq_some_iff.1 e).1
      have hr := hR.row j v xss[j] e (List.getElem?_eq_getElem hjl)
      generalize xss[j] = xj at hr
      cases hr with
      | nil => simp [Value.ownBlock] at hb
      | row hn hd hp hp0 ho hc hs hcap hm hr hk hk' => simp only [Value.ownBlock, Option.some.injEq] at hb; subst hb; exact hp
    have hnew : ∀ (v : Value) (b : Nat), ([Value.slice (ρ 0 nm).base n (ρ 0 nm).cap])[0]? = some v → v.ownBlock = some b → ¬ E.pr b := by
      intro v b e hb
      simp only [List.getElem?_cons_zero, Option.some.injEq] at e
      subst e
      rcases h5 with ⟨c0, c1⟩ | ⟨c1, _⟩
      · rw [c1] at hb
        simp [Value.ownBlock] at hb
      · rw [c1] at hb
        have hb : some (ρ 0 nm).block = some b := by simpa [Value.ownBlock] using hb
        exact hblk b (by rw [c1]; simp) (Option.some.inj hb)
    rw [List.getElem?_append] at e1 e2
    by_cases hi : i < vs.length
    · rw [if_pos hi] at e1
      by_cases hj : j < vs.length
      · rw [if_pos hj] at e2
        exact hR.apart i j v v' b hij e1 e2 hb1 hb2
      · rw [if_neg hj] at e2
        have hj0 : j - vs.length = 0 := by simpa using (List.getElem?_eq_some_iff.1 e2).1
        rw [hj0] at e2
        exact hnew _ _ e2 hb2 (hpr _ _ _ e1 hb1)
    · rw [if_neg hi] at e1
      have hi0 : i - vs.length = 0 := by simpa using (List.getElem?_eq_some_iff.1 e1).1
      rw [hi0] at e1
      by_cases hj : j < vs.length
      · rw [if_pos hj] at e2
        exact hnew _ _ e1 hb1 (hpr _ _ _ e2 hb2)
      · rw [if_neg hj] at e2
        have hj0 : j - vs.length = 0 := by simpa using (List.getElem?_eq_some_iff.1 e2).1
        omega
theorem rows_add_nil {ty es : Nat} {vs : List Value} {xss : List (List (List I))} (hR : RowsO E0 E O ty es vs xss) : RowsO E0 E O ty es (vs ++ [.slice none 0 0]) (xss ++ [[]]) := by
  refine ⟨hR.base, by simp [hR.len], fun j v xs' e1 e2 => ?_, fun i j v v' b hij e1 e2 hb1 hb2 => ?_⟩
  · rw [List.getElem?_append] at e1 e2
    by_cases hj : j < vs.length
    · rw [if_pos hj] at e1
      rw [if_pos (by rw [← hR.len]; exact hj)] at e2
      exact hR.row j v xs' e1 e2
    · rw [if_neg hj] at e1
      rw [if_neg (by rw [← hR.len]; exact hj)] at e2
      have hj2 := (List.getElem?_eq_some_iff.1 e1).1
      have hj0 : j - vs.length = 0 := by simpa using hj2
      rw [← hR.len] at e2
      rw [hj0] at e1 e2
      simp only [List.getElem?_cons_zero, Option.some.injEq] at e1 e2
      subst e1; subst e2
      exact .nil
  · rw [List.getElem?_append] at e1 e2
    have hn : ∀ (v : Value) (b : Nat), ([Value.slice none 0 0])[0]? = some v → v.ownBlock = some b → False := by
      intro v b e hb
      simp only [List.getElem?_cons_zero, Option.some.injEq] at e
      subst e
      simp [Value.ownBlock] at hb
    by_cases hi : i < vs.length
    · rw [if_pos hi] at e1
      by_cases hj : j < vs.length
      · rw [if_pos hj] at e2
        exact hR.apart i j v v' b hij e1 e2 hb1 hb2
      · rw [if_neg hj] at e2
        have hj0 : j - vs.length = 0 := by simpa using (List.getElem?_eq_some_iff.1 e2).1
        rw [hj0] at e2
        exact hn _ _ e2 hb2
    · rw [if_neg hi] at e1
      have hi0 : i - vs.length = 0 := by simpa using (List.getElem?_eq_some_iff.1 e1).1
      rw [hi0] at e1
      exact hn _ _ e1 hb1
end
section
variable {c : Cx} {s : St} {k : List Item} {ops : Array Oper} {rest : List Nat} {o : Oper} {E0 : Env} {H : Heap} {O : List Heap}
theorem give_inv {K : Kn} {ρ : Nat → Nat → Loc} {a : Act} {w : World} {E : Env} {ty es n nm t : Nat} {xs : List (List I)} {wr : Bool} {vs : List Value} {xss : List (List (List I))} (hi : Inv E K ρ s a w) (hS : s.S = H :: O) (ho : look H nm = some (.arr ty es n xs wr)) (ht : look s.σ t = some (.osl 0 nm)) (hR : RowsO E0 E O ty es vs xss) :
    ∃ E' K' v, RowsO E0 E' O ty es (vs ++ [v]) (xss ++ [xs]) ∧ Inv E' K' ρ { σ := (t, .i (.v v)) :: killσ nm s.σ, S := killH nm H :: O, n := s.n } a w := by
  have hh := hi.h
  rw [hS] at hh
  have h0 := hh.own 0 nm _ (show objAt (H :: O) 0 nm = some (.arr ty es n xs wr) by simpa [objAt] using ho)
  obtain ⟨E', K', hle, hI, hR'⟩ := give_row hh ho hR h0.2.2.2.1
  refine ⟨E', K', _, hR', hI, hi.defers, hi.size, fun t' d e => ?_⟩
  have hsl : ∀ t' d0, look s.σ t' = some d0 → RepD K' ρ (shape (killH nm H :: O)) (a.tmps.getD t' undef) (d0.kill nm) := by
    intro t' d0 e0
    have h1 := hi.slots t' d0 e0
    rw [hS] at h1
    have h2 : RepD K' ρ (shape (H :: O)) (a.tmps.getD t' undef) d0 := h1.stays ⟨hle, fun _ _ _ e => e, fun _ _ _ _ => rfl⟩
    exact RepD.kill (but_kill (ρ := ρ) (H := H) (O := O) nm) h2
  simp only [look_cons] at e
  split at e
  · rename_i e2
    subst e2
    simp only [Option.some.injEq] at e
    subst e
    have h1 := hi.slots t _ ht
    rw [hS] at h1
    have := inv_osl (es := es) (len := n) h1 (by simp [shape, objAt, ho, Ob.sh])
    rw [this]
    exact .i (.v rfl)
  · rw [look_killσ] at e
    cases hl : look s.σ t' with
    | none => simp [hl] at e
    | some d0 =>
      simp only [hl, Option.map_some, Option.some.injEq] at e
      subst e
      exact hsl _ _ hl
theorem g_giveP {i ty es n nm : Nat} {xs : List (List I)} {wr : Bool} {vs : List Value} {xss : List (List (List I))} (t : Nat) (hR : RowsO E0 c.E O ty es vs xss) (hS : s.S = H :: O) (ho : look H nm = some (.arr ty es n xs wr)) (ht : look s.σ t = some (.osl 0 nm))
    (h : ∀ E' v, RowsO E0 E' O ty es (vs ++ [v]) (xss ++ [xs]) → GM { c with E := E' } (.pause ops i rest o { σ := (t, .i (.v v)) :: killσ nm s.σ, S := killH nm H :: O, n := s.n } k)) : GM c (.pause ops i rest o s k) := by
  refine ⟨fun K ρ a w hi => ?_⟩
  obtain ⟨E', K', v, hR', hi'⟩ := give_inv hi hS ho ht hR
  exact (h E' v hR').h K' ρ a w hi'
end
def ASpecQ (g : Nat) (tab : Obj) (K0 : Kn) (P : Program) (f : FuncId) (args : List D) (O : List Heap) (res : D) (Hr : Heap) (O' : List Heap) : Prop :=
  ∀ E K ρ w vs, HInv E K ρ O w → TabQ g tab O ρ w → K0.le K → RepDL K ρ (shape O) vs args →
    Exec P f vs.toArray w fun v w' => ∃ K' ρ', HInv (.of K ρ w) K' ρ' (Hr :: O') w' ∧ RepD K' ρ' (shape (Hr :: O')) v res
section
variable {P : Program} {T : TT} {f : FuncId} {fn : Func} {code : Code}
theorem aspecQ_stop {g : Nat} {tab : Obj} {K0 : Kn} (stop : List Nat) (hT : TOk P T) (hf : P.funcs[f]? = some fn) (hb : fn.body = some code) (hcall : ∀ args w, (callFunc f args).run P w = .ok (.enter f args) w) {args : List D} {O O' : List Heap} {res : D} {Hr : Heap} {n : Nat}
    (hn : fn.ntmps = n) (hlen : args.length ≤ n)
    (h : ∀ E, TabE g tab E O → K0.le E.K0 → Rch { P := P, T := T, E := E, f := f, fn := fn, post := PostOf E res Hr O', stop := stop } [.code code] { σ := argσ 0 (D.shifts 1 args), S := [] :: O, n := n }) : ASpecQ g tab K0 P f args O res Hr O' := by
  intro E K ρ w vs hw htab hK0 hrep
  refine .inl ⟨hcall _ _, fun cs => ?_⟩
  obtain ⟨ρ1, hρ1, hI⟩ := hinv_enter hw
  have hvl := hrep.length
  let b : Frame := { (default : Frame) with fn := f, kind := .normal }
  have henter : Frame.enter P f vs.toArray .normal = b.at { tmps := vs.toArray ++ Array.replicate (fn.ntmps - vs.toArray.size) undef, defers := [] } [.code code] := by
    simp [Frame.enter, Frame.at, hf, hb, b]
  have hinv : Inv (.of K ρ w) K ρ1 { σ := argσ 0 (D.shifts 1 args), S := [] :: O, n := n } { tmps := vs.toArray ++ Array.replicate (fn.ntmps - vs.toArray.size) undef, defers := [] } w := by
    refine ⟨hI, rfl, by simp; omega, fun t d e => ?_⟩
    rw [look_argσ] at e
    simp only [Nat.zero_le, if_true, Nat.sub_zero] at e
    have hsh : RepDL K ρ1 (shape ([] :: O)) vs (D.shifts 1 args) := by
      refine RepDL.shift (ρ := ρ1) (sh := shape ([] :: O)) 1 ?_
      have e1 : (fun d n => ρ1 (1 + d) n) = ρ := by funext d n; rw [Nat.add_comm, hρ1]
      have e2 : (fun d n => shape ([] :: O) (1 + d) n) = shape O := by
        funext d n
        rw [Nat.add_comm]
        simp [shape, objAt]
      rw [e1, e2]
      exact hrep
    obtain ⟨y, hy, hr⟩ := hsh.get e
    have : (vs.toArray ++ Array.replicate (fn.ntmps - vs.toArray.size) undef).getD t undef = y := by
      have hlt : t < vs.length := (List.getElem?_eq_some_iff.1 hy).1
      simp only [Array.getD_eq_getD_getElem?]
      rw [Array.getElem?_append_left (by simpa using hlt)]
      simp [hy]
    rw [this]
    exact hr
  have hlt : g < w.heap.size := (Array.getElem?_eq_some_iff.1 htab.1).1
  obtain ⟨v, w', fr, hp, hst, hfr, hlv⟩ := h (.of K ρ w) ⟨htab, hlt⟩ hK0 K ρ1 _ w b cs hinv rfl rfl
  rw [← henter] at hst
  exact ⟨.returned v, w', fr, ⟨v, rfl, hp⟩, hst, hfr, hlv⟩
end
section
variable {c : Cx} {s : St} {k : List Item} {ops : Array Oper} {rest : List Nat} {o : Oper} {g : Nat} {tab : Obj}
theorem g_callQ (hT : TOk c.P c.T) (hfn : c.P.funcs[c.f]? = some c.fn) {O0 : List Heap} (htab : TabE g tab c.E O0) {K0 : Kn} (hK0 : K0.le c.E.K0) {f : FuncId} {args : List D} {res : D} {Hr H' : Heap} {O' : List Heap} {t : Nat} (hspec : ASpecQ g tab K0 c.P f (D.imms (headH s.S) args) s.S res Hr (H' :: O')) (ht : o.dst = some t) (hn : Nat.ble (t + 1) s.n = true)
    {H : Heap} {O : List Heap} (hS : s.S = H :: O) (hO : shape O = shape O0) (hsh : shape (H' :: O') = shape s.S) (hf : freshB Hr H' = true) (h : GM c (run c.T c.stop 1000 (.inRegion ops rest :: k) (stepS s t res.down ((downH Hr ++ H') :: O')))) : GM c (.at ops rest s o (.call f args) k) := by
  refine ⟨?_⟩
  have hq : RG c ops rest { σ := (t, res.down) :: s.σ, S := (downH Hr ++ H') :: O', n := s.n } k := by
    have h' := h.h
    rw [stepS_eq] at h'
    exact run_sound hT hfn 1000 (.inRegion ops rest :: k) _ h'
  intro K ρ a w hi ⟨vs, hrun, hrep⟩ next Qe hnext
  have hh := hi.h
  have hrep' := RepDL.imm hh hrep
  rw [hS] at hspec hsh hh hrep'
  have fin : ∀ v w', (∃ K' ρ', HInv (.of K ρ w) K' ρ' (Hr :: H' :: O') w' ∧ RepD K' ρ' (shape (Hr :: H' :: O')) v res) → next (a.put o.dst v) w' := by
    intro v w' ⟨K', ρ', h1, h2⟩
    obtain ⟨ρ'', hI, hst, hdn⟩ := hh.back h1 hsh (freshB_ok hf)
    refine hnext _ _ _ _ _ hst.le (fun d n x _ e => ⟨hst.shp _ _ _ (by rw [hS] at e; exact e), hst.loc _ _ _ (by rw [hS] at e; exact e)⟩) ?_ hq
    rw [ht]
    refine inv_set hi (Nat.le_of_ble_eq_true hn) hI ?_ (h2.down hdn)
    rw [hS]; exact hst
  rcases hspec c.E K ρ w vs hh (tab_now htab hO hh) (Kn.le_trans hK0 hh.Kle) hrep' with ⟨h1, h2⟩ | ⟨v, w', h1, h2⟩
  · rw [h1] at hrun
    simp only [Oper.wp, hrun, Oper.upon]
    refine h2.mono ?_
    rintro e w' ⟨v, rfl, hR⟩
    exact fin v w' hR
  · rw [h1] at hrun
    simp only [Oper.wp, hrun, Oper.upon]
    exact fin v w' h2
theorem wk_known (t : Nat) {v : Value} {d : I} (hv : Rep c.E.K0 v d) (ht : look s.σ t = some (.i (.v v))) : Wk c s { σ := (t, .i d) :: s.σ, S := s.S, n := s.n } := by
  intro K ρ a w hi
  refine ⟨K, ρ, hi.h, hi.defers, hi.size, fun t' d' e => ?_⟩
  simp only [look_cons] at e
  split at e
  · rename_i e2
    subst e2
    simp only [Option.some.injEq] at e
    subst e
    have h1 := hi.slots t _ ht
    rw [inv_v h1]
    exact .i (hv.mono hi.h.Kle)
  · exact hi.slots _ _ e
end
section
variable {c : Cx} {ops : Array Oper} {O : List Heap} {n : Nat} {F : SH → List Pl → Prop}
def SegF (c : Cx) (ops : Array Oper) (O : List Heap) (n : Nat) (F : SH → List Pl → Prop) (N : Nat) (r : List Oper) : SH → List Pl → Prop := fun y ac => ac.length = N ∧ GD c ops O n F r y ac
theorem gd_seg {r : List Oper} {N : Nat} : ∀ {l : List Oper} {x : SH} {acc : List Pl}, acc.length + l.length = N → GD c ops O n (SegF c ops O n F N r) l x acc → GD c ops O n F (l ++ r) x acc
  | [], x, acc, hN, ⟨qs, h1, h2⟩ => by
    cases qs with
    | nil => simpa [foldP] using h2.2
    | cons q qs => exact absurd h1 (by simp [ChainS])
  | o :: l, x, acc, hN, ⟨qs, h1, h2⟩ => by
    cases qs with
    | nil =>
      have := h2.1
      simp only [List.append_nil, List.length_cons] at this hN
      omega
    | cons q qs =>
      obtain ⟨h3, h4⟩ := h1
      have hN' : (acc ++ [q]).length + l.length = N := by
        have e1 : (o :: l).length = l.length + 1 := rfl
        have e2 : (acc ++ [q]).length = acc.length + 1 := by rw [List.length_append]; rfl
        omega
      exact gd_cons h3 (gd_seg hN' ⟨qs, h4, by rw [List.append_assoc]; exact h2⟩)
theorem stepOK_row {o : Oper} {x : SH} {t j : Nat} {xs : List (List I)} {gk : List I → Ask} {v : Value} {d : I} (hT : TOk c.P c.T) (hw : wantedD ops (St.of O n (viewOf ops o x)) o = some true) (ht : o.dst = some t) (hn : Nat.ble (t + 1) n = true) (hro : roB o = true)
    (hx : exec c.T (St.of O n (viewOf ops o x)) o = .elem xs j gk) (he : xs[j]? = some [.v v]) (hg : gk [.v v] = .val (.i (.v v))) (hv : Rep c.E.K0 v d) : StepOK c ops O n o (viewOf ops o x) (.one t (.i d)) := by
  refine .inr ⟨hw, fun E hE K ρ a w hi next Qe hnx => ?_⟩
  have hs : Stp { c with E := E } o (St.of O n (viewOf ops o x)) (fun s' => s'.S = (viewOf ops o x).2 :: O ∧ s'.n = n ∧ look s'.σ t = some (.i (.v v))) := by
    refine stp_of_does (c := { c with E := E }) hT ?_
    show Does { c with E := E } o _ _ (exec c.T _ o)
    rw [hx]
    refine ⟨[.v v], he, ?_⟩
    rw [hg]
    show Does _ _ _ _ (.val _)
    simp only [Does, ht]
    exact ⟨Nat.le_of_ble_eq_true hn, rfl, rfl, by simp [St.set, look_cons]⟩
  refine hs K ρ a w hi next Qe fun val w' s' K' ρ' hle hk hi' hq => ?_
  obtain ⟨h1, h2, h3⟩ := hq
  have hh := hi'.h
  rw [h1] at hh hk
  have hgo : goneOf (St.of O n (viewOf ops o x)) o = none := gone_ro hro
  refine hnx val w' [(t, .i d)] K' ρ' hle (fun d' n' x' e1 e2 => hk d' n' x' (by rw [hgo]; exact e1) e2) ⟨hh, hi'.defers, by rw [hi'.size, h2], fun t' d' e => ?_⟩ fun t' d' e => .inr e
  obtain ⟨rfl, rfl⟩ := look_one e
  have h4 := hi'.slots t _ h3
  rw [inv_v h4]
  exact .i (hv.mono (Kn.le_trans hE.kn hi'.h.Kle))
theorem e_row {o : Oper} {rest : List Oper} {x : SH} {acc : List Pl} {l : List Oper} {t j i N : Nat} {xs : List (List I)} {gk : List I → Ask} {v : Value} {d : I} (hT : TOk c.P c.T) (hl : l = o :: rest) (hN : acc.length = N) (hw : wantedD ops (St.of O n (viewOf ops o x)) o = some true) (ht : o.dst = some t) (hn : Nat.ble (t + 1) n = true) (hro : roB o = true)
    (hx : exec c.T (St.of O n (viewOf ops o x)) o = .elem xs j gk) (he : xs[j]? = some [.v v]) (hg : gk [.v v] = .val (.i (.v v))) (hv : Rep c.E.K0 v d)
    (h : GE c ops O n F (runS c.T ops O n i rest (setX x t (.i d)) (acc ++ [.one t (.i d)]))) : GE c ops O n (SegF c ops O n F N l) (.done x acc) := by
  subst hl
  refine ⟨⟨hN, gd_cons (stepOK_row hT hw ht hn hro hx he hg hv) ?_⟩⟩
  exact runS_sound hT rest i _ _ h.h
end
section
variable {c : Cx}
theorem g_drawnSeg (hT : TOk c.P c.T) (m : Nat) (hm : c.P.follows .mixedOrders = true) {id : Nat} {ops : Array Oper} {s : St} {k : List Item} {H : Heap} {O : List Heap} (hS : s.S = H :: O)
    (hml : m ≤ ops.size) (h : GE c ops O s.n (SegF c ops O s.n (FD c ops O s.n (s.σ, H) k) m (ops.toList.drop m)) (runS c.T ops O s.n 0 (ops.toList.take m) (s.σ, H) [])) : GM c (.drawn id ops s k) := by
  refine ⟨?_⟩
  have h0 := gd_seg (by simp; omega) (runS_sound hT _ _ _ _ h.h)
  rw [List.take_append_drop] at h0
  obtain ⟨qs, h1, h2⟩ := h0
  rw [List.nil_append] at h2
  have hs : s = St.of O s.n (s.σ, H) := by
    cases s
    simp only at hS
    subst hS
    rfl
  show Rch c (.code (.region id ops true) :: k) s
  rw [hs]
  exact rch_tail hm h2.1 h1 h2.2
end
end Go.AI


namespace Go.AI
open Go.Proofs
set_option maxRecDepth 20000
theorem swap94 (O : List Heap) (x s : Int) (d nm : Nat) (ho : objAt O d nm = some (.box [ii s])) : ASpec Tryz.prog 94 [ii x, .own d nm 0 0] O (ii (swp s x)) [] O := by
  have e : swp s x = if x = 0 then s else if x = s then 0 else x := rfl
  rw [e]
  refine aspec_intro Tk Tryz.func94 rfl Tryz.call94 Tryz.ntmps94 (Nat.le_of_ble_eq_true rfl) fun E => ?_
  refine g_run Tk Tryz.func94 ?_
  first | refine g_cnd Tk Tryz.func94 rfl (fun c1 => ?_) (fun c1 => ?_) | refine g_know Tk Tryz.func94 rfl (fun c1 => ?_) (fun c1 => ?_) | refine s_know Tk (fun c1 => ?_) (fun c1 => ?_)
  · have c1 : x = 0 := beqT c1
    first | refine g_obj Tk Tryz.func94 (ho) ?_ | refine s_obj Tk (ho) ?_
    refine g_ret Tk (r := ii s) rfl rfl rfl trivial rfl rfl ?_
    rw [if_pos c1]
  have c1 : x ≠ 0 := beqF c1
  rw [if_neg c1]
  first | refine g_obj Tk Tryz.func94 (ho) ?_ | refine s_obj Tk (ho) ?_
  first | refine g_cnd Tk Tryz.func94 rfl (fun c2 => ?_) (fun c2 => ?_) | refine g_know Tk Tryz.func94 rfl (fun c2 => ?_) (fun c2 => ?_) | refine s_know Tk (fun c2 => ?_) (fun c2 => ?_)
  · have c2 : x = s := beqT c2
    refine g_ret Tk (r := ii 0) rfl rfl rfl trivial rfl rfl ?_
    rw [if_pos c2]
  · have c2 : x ≠ s := beqF c2
    refine g_ret Tk (r := ii x) rfl rfl rfl trivial rfl rfl ?_
    rw [if_neg c2]
def frM (a : Aut) (s : Int) (i : Nat) : List Int := ((List.range i).map fun (k : Nat) => (k : Int)).filter fun i => decide (swp s i ∈ a.marked)
def frEs (a : Aut) (s : Int) (i : Nat) : List Edg := (List.range i).flatMap (frE a s)
def frOf (a : Aut) (s : Int) (i : Nat) (ev : Int) : Option Edg := if 0 ≤ stp3 a.edges (swp s i) ev then some ((i : Int), ev, swp s (stp3 a.edges (swp s i) ev)) else none
theorem frM_succ (a : Aut) (s : Int) (i : Nat) : frM a s (i + 1) = frM a s i ++ (if swp s i ∈ a.marked then [(i : Int)] else []) := by
  unfold frM
  rw [List.range_succ, List.map_append, List.filter_append]
  congr 1
  by_cases h : swp s i ∈ a.marked <;> simp [h]
theorem frEs_succ (a : Aut) (s : Int) (i : Nat) : frEs a s (i + 1) = frEs a s i ++ a.alpha.filterMap (frOf a s i) := by
  unfold frEs
  rw [List.range_succ, List.flatMap_append, List.flatMap_cons, List.flatMap_nil, List.append_nil]
  rfl
theorem frM_len (a : Aut) (s : Int) (i : Nat) : (frM a s i).length ≤ i := Nat.le_trans (List.length_filter_le _ _) (by simp)
set_option maxHeartbeats 8000000 in
theorem from64 (O : List Heap) (a : Aut) (s : Int) (n : Nat) (h : gAut a n) (hn : n ≤ 5) : ASpec Tryz.prog 64 [autD a, ii s] O (autD (frA a n s)) [] O := by
  obtain ⟨c1, c2, c3, c4⟩ := chk_parts h.c
  have hal := checkSet_len (by decide) c1
  have hal : a.alpha.length ≤ 32 := by omega
  have hst := fun O s ev => step121 O a s ev (by have := h.sm.ed; simp only [max63]; omega)
  have hho := fun O x => has30 O a.marked x (by have := h.sm.mkd; simp only [max63]; omega)
  have hR : frA a n s = ⟨a.alpha, n, frM a s n, frEs a s n⟩ := rfl
  rw [hR]
  have hM := frM_succ a s
  have hML := frM_len a s
  have hE := frEs_succ a s
  have hEL : ∀ i, (frEs a s i).length ≤ i * a.alpha.length := fr_len a s
  have hco0 : ∀ i ev, [ev].filterMap (frOf a s i) = if 0 ≤ stp3 a.edges (swp s (i : Nat)) ev then [((i : Int), ev, swp s (stp3 a.edges (swp s i) ev))] else [] := by
    intro i ev
    unfold frOf
    by_cases h : 0 ≤ stp3 a.edges (swp s i) ev <;> simp [h]
  have hpl0 : ∀ i j, ((a.alpha.take j).filterMap (frOf a s i)).length ≤ 32 := fun i j => Nat.le_trans (List.length_filterMap_le _ _) (by rw [List.length_take]; omega)
  have hst0 := h.st
  generalize frM a s = fM at *
  generalize frEs a s = fE at *
  generalize frOf a s = fO at *
  clear h c1 c2 c3 c4
  obtain ⟨al, st, mk, es⟩ := a
  simp only at *
  subst hst0
  refine aspec_stop [8, 13] Tk Tryz.func64 rfl Tryz.call64 Tryz.ntmps64 (Nat.le_of_ble_eq_true rfl) fun E => ?_
  refine g_run Tk Tryz.func64 ?_
  refine g_loop ?_
  refine rch_wk (wk_nilbox2 6 32 3 1 (pre := [ints al, ii n]) (post := [.i (.v (.slice none 0 0))]) rfl rfl rfl) ?_
  refine rch_wk (wk_nilbox2 6 66 79 3 (pre := [ints al, ii n, .osl 0 32]) (post := []) rfl rfl rfl) ?_
  have m0 : fM 0 = [] := List.eq_nil_of_length_eq_zero (by have := hML 0; omega)
  have e0 : fE 0 = [] := List.eq_nil_of_length_eq_zero (by have := hEL 0; simpa using this)
  refine rch_loop2 (fun i : Nat => [(2, .own 0 2 0 0), (3, .own 0 3 0 0), (4, .own 0 4 0 0), (5, .fn (.func 94) [] [.own 0 3 0 0]), (6, .own 0 6 0 0), (7, ii i)]) (fun i => [(2, .box [ints al, ii n, ints mk, edgs es]), (3, .box [ii s]), (4, zBox), (6, .box [ints al, ii n, .osl 0 32, .osl 0 66]), (32, oints (fM i)), (66, oedgs (fE i))]) (fun _ => O) 69
    (fun i => i ≤ n) (fun i => n - i) 0 (Nat.zero_le _) ⟨rfl, rfl, rfl, rfl, rfl, rfl, trivial⟩ rfl ⟨rfl, rfl, rfl, rfl, by rw [m0]; rfl, by rw [e0]; rfl, trivial⟩ rfl rfl ?_
  intro i hi ih
  refine g_run Tk Tryz.func64 ?_
  first | refine g_cnd Tk Tryz.func64 rfl (fun g1 => ?_) (fun g1 => ?_) | refine g_know Tk Tryz.func64 rfl (fun g1 => ?_) (fun g1 => ?_) | refine s_know Tk (fun g1 => ?_) (fun g1 => ?_)
  · have h2 : i < n := by simpa using g1
    clear g1
    have hm3 := hM i
    have hml := hML i
    have hsw : swp s (i : Int) = swp s (i : Int) := rfl
    have hh1 := fun O => hho O (swp s i)
    refine g_drawn Tk Tryz.func64 mixedT rfl ?_
    refine s_call Tk (swap94 _ (i : Int) s 0 3 rfl) rfl rfl rfl ?_
    first | refine g_call Tk Tryz.func64 (hh1 _) rfl rfl rfl rfl rfl ?_ | refine s_callq Tk (fun _ => hh1 _) rfl rfl rfl ?_
    refine e_done Tk Tryz.func64 (by kernel_rfl) ?_
    apply join_p (P := True) (s6 := { σ := [(2, .own 0 2 0 0), (3, .own 0 3 0 0), (4, .own 0 4 0 0), (5, .fn (.func 94) [] [.own 0 3 0 0]), (6, .own 0 6 0 0), (7, ii i)], S := [(2, .box [ints al, ii n, ints mk, edgs es]), (3, .box [ii s]), (4, zBox), (6, .box [ints al, ii n, .osl 0 32, .osl 0 66]), (32, oints (fM (i + 1))), (66, oedgs (fE i))] :: O, n := 69 })
    · intro J
      first | refine g_cnd Tk Tryz.func64 rfl (fun d1 => ?_) (fun d1 => ?_) | refine g_know Tk Tryz.func64 rfl (fun d1 => ?_) (fun d1 => ?_) | refine s_know Tk (fun d1 => ?_) (fun d1 => ?_)
      · have d1 : swp s (i : Int) ∈ mk := of_decide_eq_true d1
        rw [if_pos d1] at hm3
        first | refine g_need Tk Tryz.func64 (by exact ⟨by show ((fM i).length + 1) * 8 ≤ 140737488355328; omega, by show (fM i).length + 1 ≤ 9223372036854775807; omega⟩) ?_ | refine s_need Tk (by exact ⟨by show ((fM i).length + 1) * 8 ≤ 140737488355328; omega, by show (fM i).length + 1 ≤ 9223372036854775807; omega⟩) ?_
        refine g_stop ?_
        refine rch_meet (J trivial) ⟨rfl, rfl, rfl, rfl, rfl, rfl, trivial⟩ rfl ⟨rfl, rfl, rfl, rfl, ?_, rfl, trivial⟩ rfl rfl
        rw [hm3]
        exact congrArg some (oints_app (fM i) (i : Int))
      · have d1 : swp s (i : Int) ∉ mk := of_decide_eq_false d1
        rw [if_neg d1, List.append_nil] at hm3
        refine g_stop ?_
        refine rch_meet (J trivial) ⟨rfl, rfl, rfl, rfl, rfl, rfl, trivial⟩ rfl ⟨rfl, rfl, rfl, rfl, by rw [hm3]; rfl, rfl, trivial⟩ rfl rfl
    · intro _
      clear hm3 hml hh1 hM hML
      have hE := hE i
      have hEl := hEL i
      have hEl2 : i * al.length ≤ 5 * 32 := Nat.mul_le_mul (by omega) hal
      have hst1 := fun O ev => hst O (swp s i) ev
      have hco1 := hco0 i
      have hpl1 := hpl0 i
      refine g_run Tk Tryz.func64 ?_
      refine g_go Tk Tryz.func64 ?_
      refine g_loop ?_
      refine rch_loop2 (fun j : Nat => [(2, .own 0 2 0 0), (3, .own 0 3 0 0), (4, .own 0 4 0 0), (5, .fn (.func 94) [] [.own 0 3 0 0]), (6, .own 0 6 0 0), (7, ii i), (8, ii j)]) (fun j => [(2, .box [ints al, ii n, ints mk, edgs es]), (3, .box [ii s]), (4, zBox), (6, .box [ints al, ii n, .osl 0 32, .osl 0 66]), (32, oints (fM (i + 1))), (66, oedgs (fE i ++ (al.take j).filterMap (fO i)))]) (fun _ => O) 69
        (fun j => j ≤ al.length) (fun j => al.length - j) 0 (Nat.zero_le _) ⟨rfl, rfl, rfl, rfl, rfl, rfl, rfl, trivial⟩ rfl ⟨rfl, rfl, rfl, rfl, rfl, by show some (oedgs (fE i)) = some (oedgs (fE i ++ [])); rw [List.append_nil], trivial⟩ rfl rfl ?_
      intro j hj ih2
      refine g_run Tk Tryz.func64 ?_
      first | refine g_cnd Tk Tryz.func64 rfl (fun g2 => ?_) (fun g2 => ?_) | refine g_know Tk Tryz.func64 rfl (fun g2 => ?_) (fun g2 => ?_) | refine s_know Tk (fun g2 => ?_) (fun g2 => ?_)
      · have h3 : j < al.length := by simpa using g2
        clear g2
        have ga : (al.map fun x => [vi x])[(j : Int).toNat]? = some [vi al[j]] := get_mapZ (f := fun x => [vi x]) h3
        have htk : (al.take (j + 1)).filterMap (fO i) = (al.take j).filterMap (fO i) ++ [al[j]].filterMap (fO i) := by
          rw [List.take_succ_eq_append_getElem h3, List.filterMap_append]
        have hpl := hpl1 j
        have n2 : 0 ≤ (j : Int) ∧ (j : Int) < (al.length : Int) := by omega
        have hj1 : ii (IntKind.i64.wrap ((j : Int) + 1)) = ii ((j + 1 : Nat) : Int) := congrArg ii (wsucc (n := 1000001) (by omega) (by decide))
        generalize al[j] = ev at *
        have hst2 := fun O => hst1 O ev
        rw [hco1 ev] at htk
        generalize stp3 es (swp s i) ev = t at *
        refine g_drawn Tk Tryz.func64 mixedT rfl ?_
        refine s_call Tk (swap94 _ (i : Int) s 0 3 rfl) rfl rfl rfl ?_
        first | refine g_need Tk Tryz.func64 (by exact n2) ?_ | refine s_need Tk (by exact n2) ?_
        first | refine g_elem Tk Tryz.func64 (ga) ?_ | refine s_elem Tk (ga) ?_
        first | refine g_call Tk Tryz.func64 (hst2 _) rfl rfl rfl rfl rfl ?_ | refine s_callq Tk (fun _ => hst2 _) rfl rfl rfl ?_
        refine e_done Tk Tryz.func64 (by kernel_rfl) ?_
        first | refine g_cnd Tk Tryz.func64 rfl (fun d1 => ?_) (fun d1 => ?_) | refine g_know Tk Tryz.func64 rfl (fun d1 => ?_) (fun d1 => ?_) | refine s_know Tk (fun d1 => ?_) (fun d1 => ?_)
        · have d1 : t ≥ 0 := of_decide_eq_true d1
          rw [if_pos d1] at htk
          refine g_stop ?_
          refine g_run Tk Tryz.func64 ?_
          refine g_go Tk Tryz.func64 ?_
          refine g_drawn Tk Tryz.func64 mixedT rfl ?_
          first | refine g_need Tk Tryz.func64 (by exact n2) ?_ | refine s_need Tk (by exact n2) ?_
          first | refine g_elem Tk Tryz.func64 (ga) ?_ | refine s_elem Tk (ga) ?_
          refine s_call Tk (swap94 _ t s 0 3 rfl) rfl rfl rfl ?_
          refine e_tail Tk Tryz.func64 ([13, 14, 15]) (by kernel_rfl) (by kernel_rfl) ?_
          first | refine g_need Tk Tryz.func64 (by exact ⟨by show ((fE i ++ (al.take j).filterMap (fO i)).length + 1) * 24 ≤ 140737488355328; rw [List.length_append]; omega, by show (fE i ++ (al.take j).filterMap (fO i)).length + 1 ≤ 9223372036854775807; rw [List.length_append]; omega⟩) ?_ | refine s_need Tk (by exact ⟨by show ((fE i ++ (al.take j).filterMap (fO i)).length + 1) * 24 ≤ 140737488355328; rw [List.length_append]; omega, by show (fE i ++ (al.take j).filterMap (fO i)).length + 1 ≤ 9223372036854775807; rw [List.length_append]; omega⟩) ?_
          refine g_loop ?_
          refine ih2 (j + 1) _ _ h3 (by omega) ⟨rfl, rfl, rfl, rfl, rfl, rfl, hj1, trivial⟩ rfl ⟨rfl, rfl, rfl, rfl, rfl, ?_, trivial⟩ rfl rfl
          rw [htk, ← List.append_assoc]
          exact congrArg some (oedgs_app (fE i ++ (al.take j).filterMap (fO i)) ((i : Int), ev, swp s t))
        · have d1 : ¬ t ≥ 0 := of_decide_eq_false d1
          rw [if_neg d1, List.append_nil] at htk
          refine g_loop ?_
          refine ih2 (j + 1) _ _ h3 (by omega) ⟨rfl, rfl, rfl, rfl, rfl, rfl, hj1, trivial⟩ rfl ⟨rfl, rfl, rfl, rfl, rfl, by rw [htk]; rfl, trivial⟩ rfl rfl
      · have h3 : al.length ≤ j := by simpa using g2
        refine g_loop ?_
        refine ih (i + 1) _ _ h2 (by omega) ⟨rfl, rfl, rfl, rfl, rfl, congrArg ii (wsucc (n := 5000) (by omega) (by decide)), trivial⟩ rfl ⟨rfl, rfl, rfl, rfl, rfl, ?_, trivial⟩ rfl rfl
        show some (oedgs (fE i ++ (al.take j).filterMap (fO i))) = _
        rw [List.take_of_length_le h3, hE]
  · have h2 : n ≤ i := by simpa using g1
    obtain rfl : i = n := by omega
    refine g_rwk (wk_freeze 32 rfl rfl) ?_
    refine g_rwk (wk_freeze 66 rfl rfl) ?_
    refine g_rwk (wk_imm rfl) ?_
    refine g_ret Tk (r := autD ⟨al, i, fM i, fE i⟩) rfl rfl rfl trivial rfl rfl ?_
    rfl
end Go.AI


namespace Go.AI
open Go.Proofs
set_option maxRecDepth 20000
def pStep (a : Aut) (on : List Int) (n : Nat) (s : List Int) (ev : Int) : List Int × Bool × Int := (nxt a.edges (lowP on [] false) n s ev, decide ((nxt a.edges (lowP on [] false) n s ev).length ≠ 0), 0)
def prjR (a : Aut) (on : List Int) (n : Nat) : Except Int (Unf (List Int)) := unfR eqB false (pStep a on n) (marksR a) (keptR a on) (clo a.edges (lowP on [] false) n [0])
theorem fin_prj (a : Aut) (on : List Int) (n : Nat) : Fin1 (pStep a on n) eqB false (fun s => s ∈ subs n) :=
  ⟨fun s ev _ _ => sorted_subs _ _, fun _ _ _ _ => rfl, fun h => by cases h⟩
theorem uloop_done {σ : Type} {eq : σ → σ → Bool} {lim : Bool} {step : σ → Int → σ × Bool × Int} {mkd : σ → Bool} {alpha : List Int} {U : Unf σ} {i : Nat} (h : U.sts.length ≤ i) : ∀ k, uloop eq lim step mkd alpha k i U = .ok U
  | 0 => rfl
  | k + 1 => by simp only [uloop, List.getElem?_eq_none h]
theorem any_swap (l m : List Int) : (l.any fun x => decide (x ∈ m)) = m.any fun x => decide (x ∈ l) := by
  refine Bool.eq_iff_iff.2 ?_
  simp only [List.any_eq_true, decide_eq_true_eq]
  exact ⟨fun ⟨x, h1, h2⟩ => ⟨x, h2, h1⟩, fun ⟨x, h1, h2⟩ => ⟨x, h2, h1⟩⟩
theorem pvisit_ok {a : Aut} {on : List Int} {n : Nat} {i : Nat} {s : List Int} {ev : Int} {U V : Unf (List Int)} (hU : UOk (fun s => s ∈ subs n) U) (hs : s ∈ subs n) (hi : i < U.sts.length) (h : uvisit eqB false (pStep a on n) i s ev U = .ok V) :
    UOk (fun s => s ∈ subs n) V ∧ i < V.sts.length ∧ V.sts[i]? = U.sts[i]? := by
  have h1 := uvisit_spec (fin_prj a on n) (ev := ev) hU hs hi
  split at h1
  · rw [h1] at h; cases h
  · obtain ⟨r, h2, h3, _⟩ := h1
    rw [h2] at h
    simp only [Except.ok.injEq] at h
    subst h
    exact ⟨h3, by simp only [List.length_append]; omega, List.getElem?_append_left hi⟩
set_option maxHeartbeats 16000000 in
theorem project63 (O : List Heap) (a : Aut) (on : List Int) (n : Nat) (h : gAut a n) (hn : n ≤ 5) (hn0 : 0 < n) (hon : on.length ≤ max63) (V : Unf (List Int)) (hV : prjR a on n = .ok V) :
    ASpec Tryz.prog 63 [autD a, ints on] O (.tup [autD ⟨keptR a on, V.sts.length, V.mkl, V.eds⟩, .i (rowsS V.sts)]) [] O := by
  obtain ⟨c1, c2, c3, c4⟩ := chk_parts h.c
  have hal := checkSet_len (by decide) c1
  have hal : a.alpha.length ≤ 32 := by omega
  have hkp : ∀ O, ASpec Tryz.prog 29 [autD a, ints on] O (ints (keptR a on)) [] O := fun O => kept29 O a on h.sm.al hon
  have hkl : (keptR a on).length ≤ 32 := Nat.le_trans (List.length_filter_le _ _) hal
  have hem := fun O => empty120 O (keptR a on) (by omega)
  have hbg := fun O => begin73 O a on n h (by omega) hon
  have hb0 : begR a on n = clo a.edges (lowP on [] false) n [0] := by unfold begR; rw [if_neg (by omega)]
  rw [hb0] at hbg
  have hnx := fun O e ev he => next34 O a on e ev n h (by omega) he hon
  have hno : (Except.ok V : Except Int (Unf (List Int))) = uloop eqB false (pStep a on n) (marksR a) (keptR a on) (4097 - 0) 0 (unf0 (clo a.edges (lowP on [] false) n [0])) := hV.symm
  have hf0 : clo a.edges (lowP on [] false) n [0] ∈ subs n := sorted_subs _ _
  have h0 : UOk (fun s => s ∈ subs n) (unf0 (clo a.edges (lowP on [] false) n [0])) := ⟨by simpa [unf0] using hf0, by simp [unf0], rfl⟩
  have hfew : ∀ U : Unf (List Int), UOk (fun s => s ∈ subs n) U → U.sts.length ≤ 32 := fun U hU => by
    have := nodup_sub hU.nd hU.ok
    rw [subs_len] at this
    have : 2 ^ n ≤ 2 ^ 5 := Nat.pow_le_pow_right (by decide) hn
    omega
  have hvok := fun i s ev U V' hU hs hi hq => @pvisit_ok a on n i s ev U V' hU hs hi hq
  have hps : ∀ s ev, pStep a on n s ev = (nxt a.edges (lowP on [] false) n s ev, decide ((nxt a.edges (lowP on [] false) n s ev).length ≠ 0), 0) := fun _ _ => rfl
  have hmk : ∀ s, marksR a s = a.marked.any fun x => decide (x ∈ s) := fun s => any_swap _ _
  have hml0 := h.sm.mkd
  have hst := h.st
  generalize hR : (Except.ok V : Except Int (Unf (List Int))) = R at *
  generalize pStep a on n = ps at *
  generalize marksR a = mr at *
  generalize clo a.edges (lowP on [] false) n [0] = s0 at *
  generalize keptR a on = kp at *
  generalize lowP on [] false = lp at *
  clear h hV hb0 c1 c2 c3 c4
  obtain ⟨al, st, mk, es⟩ := a
  simp only at *
  subst hst
  refine aspec_stop [21, 23] Tk Tryz.func63 rfl Tryz.call63 Tryz.ntmps63 (Nat.le_of_ble_eq_true rfl) fun E => ?_
  refine g_run Tk Tryz.func63 ?_
  first | refine g_call Tk Tryz.func63 (hkp _) rfl rfl rfl rfl rfl ?_ | refine s_callq Tk (fun _ => hkp _) rfl rfl rfl ?_
  first | refine g_call Tk Tryz.func63 (hem _) rfl rfl rfl rfl rfl ?_ | refine s_callq Tk (fun _ => hem _) rfl rfl rfl ?_
  first | refine g_cnd Tk Tryz.func63 rfl (fun z1 => ?_) (fun z1 => ?_) | refine g_know Tk Tryz.func63 rfl (fun z1 => ?_) (fun z1 => ?_) | refine s_know Tk (fun z1 => ?_) (fun z1 => ?_)
  rotate_left
  · have z1 : ¬ (n : Int) > 0 := of_decide_eq_false z1
    omega
  first | refine g_call Tk Tryz.func63 (hbg _) rfl rfl rfl rfl rfl ?_ | refine s_callq Tk (fun _ => hbg _) rfl rfl rfl ?_
  first | refine g_need Tk Tryz.func63 (by exact ⟨by decide, by decide⟩) ?_ | refine s_need Tk (by exact ⟨by decide, by decide⟩) ?_
  refine g_loop ?_
  refine rch_wk (wk_ren 25 106 rfl rfl rfl) ?_
  refine rch_wk (wk_nilbox2 6 60 3 1 (pre := [ints kp, ii 0]) (post := [.i (.v (.slice none 0 0))]) rfl rfl rfl) ?_
  refine rch_wk (wk_nilbox2 6 118 79 3 (pre := [ints kp, ii 0, .osl 0 60]) (post := []) rfl rfl rfl) ?_
  refine rch_loop2 (fun x : Nat × Unf (List Int) => [(1, ints on), (2, .own 0 2 0 0), (4, .own 0 4 0 0), (6, .own 0 6 0 0), (7, .osl 0 106), (8, ii x.1)])
    (fun x => [(2, .box [ints al, ii n, ints mk, edgs es]), (4, zBox), (6, .box [ints kp, ii 0, .osl 0 60, .osl 0 118]), (106, orows x.2.sts), (60, oints x.2.mkl), (118, oedgs x.2.eds)]) (fun _ => O) 125
    (fun x => x.1 ≤ x.2.sts.length ∧ UOk (fun s => s ∈ subs n) x.2 ∧ (x.2.mkl.length ≤ x.1 ∧ ∀ y ∈ x.2.mkl, y < (x.1 : Int)) ∧ x.2.eds.length ≤ 32 * x.1 ∧ R = uloop eqB false ps mr kp (4097 - x.1) x.1 x.2) (fun x => 4097 - x.1) (0, unf0 s0)
    ⟨Nat.zero_le _, h0, ⟨Nat.le_refl _, by simp [unf0]⟩, Nat.le_refl _, hno⟩ ⟨rfl, rfl, rfl, rfl, rfl, rfl, trivial⟩ rfl ⟨rfl, rfl, rfl, rfl, rfl, rfl, trivial⟩ rfl rfl ?_
  clear hno hbg hem hkp h0 hf0
  rintro ⟨i, U⟩ ⟨hi, hgd, ⟨hml, hmlt⟩, hel, hno⟩ ih
  simp only at hi hgd hml hmlt hel hno
  refine g_run Tk Tryz.func63 ?_
  first | refine g_cnd Tk Tryz.func63 rfl (fun g1 => ?_) (fun g1 => ?_) | refine g_know Tk Tryz.func63 rfl (fun g1 => ?_) (fun g1 => ?_) | refine s_know Tk (fun g1 => ?_) (fun g1 => ?_)
  · have h1 : i < U.sts.length := by simpa using g1
    clear g1
    have hle := hfew U hgd
    have hsi : U.sts[i]? = some U.sts[i] := List.getElem?_eq_getElem h1
    have gs : (U.sts.map fun r => [intsI r])[(i : Int).toNat]? = some [intsI U.sts[i]] := get_mapZ (f := fun r => [intsI r]) h1
    have hoks := hgd.ok _ (List.getElem_mem h1)
    generalize U.sts[i] = s at *
    have hsl := (mem_subs hoks).1
    have hno : R = match uvisits eqB false ps i s kp (umark mr i s U) with
        | .error e => .error e
        | .ok U' => uloop eqB false ps mr kp (4097 - (i + 1)) (i + 1) U' := by
      rw [hno, show 4097 - i = (4097 - (i + 1)) + 1 by omega]
      simp only [uloop, hsi]
      cases uvisits eqB false ps i s kp (umark mr i s U) <;> rfl
    obtain ⟨m1, m2⟩ := umark_sts mr i s U
    have hM : UOk (fun s => s ∈ subs n) (umark mr i s U) := ⟨by rw [m1]; exact hgd.ok, by rw [m1]; exact hgd.nd, by rw [m1, m2]; exact hgd.fr⟩
    have hm3 : (umark mr i s U).mkl = if (mk.any fun x => decide (x ∈ s)) = true then U.mkl ++ [(i : Int)] else U.mkl := by
      rw [← hmk]
      unfold umark
      by_cases h : mr s = true <;> simp [h]
    generalize umark mr i s U = U1 at *
    obtain ⟨sts, mkl, eds⟩ := U
    obtain ⟨sts1, mkl1, eds1⟩ := U1
    simp only at m1 m2 hm3 hsi gs hno h1 hle hel hml hmlt hi
    subst m1 m2
    have n1 : 0 ≤ (i : Int) ∧ (i : Int) < (sts1.length : Int) := by omega
    have hnin : (i : Int) ∉ mkl := fun h => by have := hmlt _ h; omega
    refine g_loop ?_
    refine rch_loop2 (fun x : Nat × List Int => [(1, ints on), (2, .own 0 2 0 0), (4, .own 0 4 0 0), (6, .own 0 6 0 0), (7, .osl 0 106), (8, ii i), (9, ii x.1)])
      (fun x => [(2, .box [ints al, ii n, ints mk, edgs es]), (4, zBox), (6, .box [ints kp, ii 0, .osl 0 60, .osl 0 118]), (106, orows sts1), (60, oints x.2), (118, oedgs eds1)]) (fun _ => O) 125
      (fun x => x.1 ≤ mk.length ∧ x.2 = if ((mk.take x.1).any fun x => decide (x ∈ s)) = true then mkl ++ [(i : Int)] else mkl) (fun x => mk.length - x.1) (0, mkl)
      ⟨Nat.zero_le _, by simp⟩ ⟨rfl, rfl, rfl, rfl, rfl, rfl, rfl, trivial⟩ rfl ⟨rfl, rfl, rfl, rfl, rfl, rfl, trivial⟩ rfl rfl ?_
    rintro ⟨j, ml⟩ ⟨hj, hmj⟩ ihm
    simp only at hj hmj
    have hj1 : ii (IntKind.i64.wrap ((j : Int) + 1)) = ii ((j + 1 : Nat) : Int) := congrArg ii (wsucc (n := 1000001) (by omega) (by decide))
    have hmll : ml.length ≤ i + 1 := by rw [hmj]; split; (rw [List.length_append, List.length_singleton]; omega); omega
    refine g_run Tk Tryz.func63 ?_
    first | refine g_cnd Tk Tryz.func63 rfl (fun g2 => ?_) (fun g2 => ?_) | refine g_know Tk Tryz.func63 rfl (fun g2 => ?_) (fun g2 => ?_) | refine s_know Tk (fun g2 => ?_) (fun g2 => ?_)
    · have h3 : j < mk.length := by simpa using g2
      clear g2
      have gm : (mk.map fun x => [vi x])[(j : Int).toNat]? = some [vi mk[j]] := get_mapZ (f := fun x => [vi x]) h3
      have htk : mk.take (j + 1) = mk.take j ++ [mk[j]] := List.take_succ_eq_append_getElem h3
      generalize mk[j] = x at *
      have hany : ((mk.take (j + 1)).any fun x => decide (x ∈ s)) = (((mk.take j).any fun x => decide (x ∈ s)) || decide (x ∈ s)) := by rw [htk, List.any_append]; simp
      generalize ((mk.take j).any fun x => decide (x ∈ s)) = A at *
      have n2 : 0 ≤ (j : Int) ∧ (j : Int) < (mk.length : Int) := by omega
      refine g_drawn Tk Tryz.func63 mixedT rfl ?_
      first | refine g_need Tk Tryz.func63 (by exact n1) ?_ | refine s_need Tk (by exact n1) ?_
      first | refine g_elem Tk Tryz.func63 (gs) ?_ | refine s_elem Tk (gs) ?_
      first | refine g_need Tk Tryz.func63 (by exact n2) ?_ | refine s_need Tk (by exact n2) ?_
      first | refine g_elem Tk Tryz.func63 (gm) ?_ | refine s_elem Tk (gm) ?_
      first | refine g_call Tk Tryz.func63 (has55 _ s x (by simp only [max63]; omega)) rfl rfl rfl rfl rfl ?_ | refine s_callq Tk (fun _ => has55 _ s x (by simp only [max63]; omega)) rfl rfl rfl ?_
      first | refine g_cnd Tk Tryz.func63 rfl (fun d1 => ?_) (fun d1 => ?_) | refine g_know Tk Tryz.func63 rfl (fun d1 => ?_) (fun d1 => ?_) | refine s_know Tk (fun d1 => ?_) (fun d1 => ?_)
      · have d1 : x ∈ s := of_decide_eq_true d1
        rw [decide_eq_true d1, Bool.or_true] at hany
        refine s_call Tk (has55o _ ml i 0 60 rfl (by simp only [max63]; omega)) rfl rfl rfl ?_
        refine e_done Tk Tryz.func63 (by kernel_rfl) ?_
        first | refine g_cnd Tk Tryz.func63 rfl (fun d2 => ?_) (fun d2 => ?_) | refine g_know Tk Tryz.func63 rfl (fun d2 => ?_) (fun d2 => ?_) | refine s_know Tk (fun d2 => ?_) (fun d2 => ?_)
        · have d2 : (i : Int) ∉ ml := of_decide_eq_false (notT d2)
          have hA : A = false := by
            cases A with
            | false => rfl
            | true => rw [if_pos rfl] at hmj; exact absurd (by rw [hmj]; simp) d2
          rw [hA, if_neg (by decide)] at hmj
          subst hmj
          first | refine g_need Tk Tryz.func63 (by exact ⟨by show (ml.length + 1) * 8 ≤ 140737488355328; omega, by show ml.length + 1 ≤ 9223372036854775807; omega⟩) ?_ | refine s_need Tk (by exact ⟨by show (ml.length + 1) * 8 ≤ 140737488355328; omega, by show ml.length + 1 ≤ 9223372036854775807; omega⟩) ?_
          refine g_loop ?_
          exact ihm (j + 1, ml ++ [(i : Int)]) _ _ ⟨h3, by rw [hany]; rfl⟩ (by simp only; omega) ⟨rfl, rfl, rfl, rfl, rfl, rfl, hj1, trivial⟩ rfl ⟨rfl, rfl, rfl, rfl, congrArg some (oints_app ml (i : Int)), rfl, trivial⟩ rfl rfl
        · have d2 : (i : Int) ∈ ml := of_decide_eq_true (notF d2)
          have hA : A = true := by
            cases A with
            | true => rfl
            | false => rw [if_neg (by decide)] at hmj; exact absurd (hmj ▸ d2) hnin
          refine g_loop ?_
          exact ihm (j + 1, ml) _ _ ⟨h3, by rw [hany]; rw [hA] at hmj; exact hmj⟩ (by simp only; omega) ⟨rfl, rfl, rfl, rfl, rfl, rfl, hj1, trivial⟩ rfl ⟨rfl, rfl, rfl, rfl, rfl, rfl, trivial⟩ rfl rfl
      · have d1 : x ∉ s := of_decide_eq_false d1
        rw [decide_eq_false d1, Bool.or_false] at hany
        refine e_done Tk Tryz.func63 (by kernel_rfl) ?_
        repeat (first | refine gcT Tk Tryz.func63 rfl ?_ | refine gkT Tk Tryz.func63 rfl ?_ | refine skT Tk ?_ | refine gcF Tk Tryz.func63 rfl ?_ | refine gkF Tk Tryz.func63 rfl ?_ | refine skF Tk ?_)
        refine g_loop ?_
        exact ihm (j + 1, ml) _ _ ⟨h3, by rw [hany]; exact hmj⟩ (by simp only; omega) ⟨rfl, rfl, rfl, rfl, rfl, rfl, hj1, trivial⟩ rfl ⟨rfl, rfl, rfl, rfl, rfl, rfl, trivial⟩ rfl rfl
    have h3 : mk.length ≤ j := by simpa using g2
    rw [List.take_of_length_le h3] at hmj
    have hmj : ml = mkl1 := by rw [hmj, hm3]
    subst hmj
    clear ihm hj1 g2
    have hmlt1 : ∀ y ∈ ml, y < ((i + 1 : Nat) : Int) := by
      intro y hy
      rw [hm3] at hy
      split at hy
      · rcases List.mem_append.1 hy with hy | hy
        · have := hmlt _ hy; omega
        · rw [List.mem_singleton] at hy; omega
      · have := hmlt _ hy; omega
    clear hm3 hnin hmlt hml
    have hV0 : uvisits eqB false ps i s kp ⟨sts1, ml, eds1⟩ = uvisits eqB false ps i s (kp.drop 0) ⟨sts1, ml, eds1⟩ := rfl
    generalize uvisits eqB false ps i s kp ⟨sts1, ml, eds1⟩ = VV at *
    refine g_loop ?_
    refine rch_loop2 (fun x : Nat × Unf (List Int) => [(1, ints on), (2, .own 0 2 0 0), (4, .own 0 4 0 0), (6, .own 0 6 0 0), (7, .osl 0 106), (8, ii i), (10, ii x.1)])
      (fun x => [(2, .box [ints al, ii n, ints mk, edgs es]), (4, zBox), (6, .box [ints kp, ii 0, .osl 0 60, .osl 0 118]), (106, orows x.2.sts), (60, oints x.2.mkl), (118, oedgs x.2.eds)]) (fun _ => O) 125
      (fun x => x.1 ≤ kp.length ∧ UOk (fun s => s ∈ subs n) x.2 ∧ i < x.2.sts.length ∧ x.2.mkl = ml ∧ x.2.eds.length ≤ 32 * i + x.1 ∧ x.2.sts[i]? = some s ∧ VV = uvisits eqB false ps i s (kp.drop x.1) x.2) (fun x => kp.length - x.1) (0, ⟨sts1, ml, eds1⟩)
      ⟨Nat.zero_le _, hM, h1, rfl, hel, hsi, hV0⟩ ⟨rfl, rfl, rfl, rfl, rfl, rfl, rfl, trivial⟩ rfl ⟨rfl, rfl, rfl, rfl, rfl, rfl, trivial⟩ rfl rfl ?_
    clear hV0 hsi hel hgd hle hM gs n1 h1
    rintro ⟨j, ⟨sts, mk', eds⟩⟩ ⟨hj, hgd, hil, hmke, hel, hsi, hV⟩ ih2
    simp only at hj hgd hil hmke hel hsi hV
    subst hmke
    have hle : sts.length ≤ 32 := hfew _ hgd
    refine g_run Tk Tryz.func63 ?_
    first | refine g_cnd Tk Tryz.func63 rfl (fun g2 => ?_) (fun g2 => ?_) | refine g_know Tk Tryz.func63 rfl (fun g2 => ?_) (fun g2 => ?_) | refine s_know Tk (fun g2 => ?_) (fun g2 => ?_)
    · have h3 : j < kp.length := by simpa using g2
      clear g2
      have ga : (kp.map fun x => [vi x])[(j : Int).toNat]? = some [vi kp[j]] := get_mapZ (f := fun x => [vi x]) h3
      have da : kp.drop j = kp[j] :: kp.drop (j + 1) := List.drop_eq_getElem_cons h3
      rw [da] at hV
      simp only [uvisits] at hV
      clear da
      generalize kp[j] = ev at *
      have gs : (sts.map fun r => [intsI r])[(i : Int).toNat]? = some [intsI s] := by simp [hsi]
      have hx1 := fun O => hnx O s ev (by simp only [max63]; omega)
      have hvok := fun V' h => hvok i s ev ⟨sts, mk', eds⟩ V' hgd hoks hil h
      have hj1 : ii (IntKind.i64.wrap ((j : Int) + 1)) = ii ((j + 1 : Nat) : Int) := congrArg ii (wsucc (n := 4096) (by omega) (by decide))
      have n2 : 0 ≤ (j : Int) ∧ (j : Int) < (kp.length : Int) := by omega
      have n3 : 0 ≤ (i : Int) ∧ (i : Int) < (sts.length : Int) := by omega
      have hnl : (nxt es lp n s ev).length ≤ n := clo_len _ _ _ _
      unfold uvisit at hV hvok
      rw [hps] at hV hvok
      generalize nxt es lp n s ev = nx at *
      simp only [ne_eq, not_true, if_false] at hV hvok
      refine g_drawn Tk Tryz.func63 mixedT rfl ?_
      first | refine g_need Tk Tryz.func63 (by exact n3) ?_ | refine s_need Tk (by exact n3) ?_
      first | refine g_elem Tk Tryz.func63 (gs) ?_ | refine s_elem Tk (gs) ?_
      first | refine g_need Tk Tryz.func63 (by exact n2) ?_ | refine s_need Tk (by exact n2) ?_
      first | refine g_elem Tk Tryz.func63 (ga) ?_ | refine s_elem Tk (ga) ?_
      first | refine g_call Tk Tryz.func63 (hx1 _) rfl rfl rfl rfl rfl ?_ | refine s_callq Tk (fun _ => hx1 _) rfl rfl rfl ?_
      refine e_done Tk Tryz.func63 (by kernel_rfl) ?_
      first | refine g_cnd Tk Tryz.func63 rfl (fun c1 => ?_) (fun c1 => ?_) | refine g_know Tk Tryz.func63 rfl (fun c1 => ?_) (fun c1 => ?_) | refine s_know Tk (fun c1 => ?_) (fun c1 => ?_)
      · have c1 : (nx.length : Int) = 0 := beqT c1
        rw [if_pos (by simp only [decide_eq_false_iff_not]; omega)] at hV
        refine g_loop ?_
        exact ih2 (j + 1, ⟨sts, mk', eds⟩) _ _ ⟨h3, hgd, hil, rfl, by simp only; omega, hsi, hV⟩ (by simp only; omega) ⟨rfl, rfl, rfl, rfl, rfl, rfl, hj1, trivial⟩ rfl ⟨rfl, rfl, rfl, rfl, rfl, rfl, trivial⟩ rfl rfl
      have c1 : ¬ (nx.length : Int) = 0 := beqF c1
      rw [if_neg (by simp only [decide_eq_false_iff_not]; omega)] at hV hvok
      have hix : sts.findIdx (eqB nx) ≤ sts.length := findIdx_le
      have hR0 : sts.findIdx (eqB nx) = 0 + (sts.drop 0).findIdx (eqB nx) := by simp
      generalize sts.findIdx (eqB nx) = t at *
      generalize hst2 : (if t < sts.length then sts else sts ++ [nx]) = sts2
      have hU2 : VV = uvisits eqB false ps i s (kp.drop (j + 1)) ⟨sts2, mk', eds ++ [((i : Int), ev, (t : Int))]⟩ ∧ UOk (fun s => s ∈ subs n) ⟨sts2, mk', eds ++ [((i : Int), ev, (t : Int))]⟩ ∧ i < sts2.length ∧ sts2[i]? = some s := by
        by_cases hlt : t < sts.length
        · rw [if_pos hlt] at hst2 hV hvok
          subst hst2
          have h := hvok _ rfl
          exact ⟨hV, h.1, h.2.1, h.2.2.trans hsi⟩
        · rw [if_neg hlt, if_neg (by simp)] at hV hvok
          rw [if_neg hlt] at hst2
          subst hst2
          have h := hvok _ rfl
          exact ⟨hV, h.1, h.2.1, h.2.2.trans hsi⟩
      clear hV hvok
      refine g_loop ?_
      apply join_p (P := True) (s6 := { σ := [(1, ints on), (2, .own 0 2 0 0), (4, .own 0 4 0 0), (6, .own 0 6 0 0), (7, .osl 0 106), (8, ii i), (10, ii j), (11, ints nx), (12, ii t)], S := [(2, .box [ints al, ii n, ints mk, edgs es]), (4, zBox), (6, .box [ints kp, ii 0, .osl 0 60, .osl 0 118]), (106, orows sts), (60, oints mk'), (118, oedgs eds)] :: O, n := 125 })
      · intro J
        refine rch_loop2 (fun m : Nat => [(1, ints on), (2, .own 0 2 0 0), (4, .own 0 4 0 0), (6, .own 0 6 0 0), (7, .osl 0 106), (8, ii i), (10, ii j), (11, ints nx), (12, ii m)])
          (fun _ => [(2, .box [ints al, ii n, ints mk, edgs es]), (4, zBox), (6, .box [ints kp, ii 0, .osl 0 60, .osl 0 118]), (106, orows sts), (60, oints mk'), (118, oedgs eds)]) (fun _ => O) 125
          (fun m => m ≤ sts.length ∧ t = m + (sts.drop m).findIdx (eqB nx)) (fun m => sts.length - m) 0
          ⟨Nat.zero_le _, hR0⟩ ⟨rfl, rfl, rfl, rfl, rfl, rfl, rfl, rfl, rfl, trivial⟩ rfl ⟨rfl, rfl, rfl, rfl, rfl, rfl, trivial⟩ rfl rfl ?_
        rintro m ⟨hm, hR1⟩ ih3
        refine g_run Tk Tryz.func63 ?_
        first | refine g_cnd Tk Tryz.func63 rfl (fun g3 => ?_) (fun g3 => ?_) | refine g_know Tk Tryz.func63 rfl (fun g3 => ?_) (fun g3 => ?_) | refine s_know Tk (fun g3 => ?_) (fun g3 => ?_)
        · have h4 : m < sts.length := by simpa using g3
          have gm : (sts.map fun r => [intsI r])[(m : Int).toNat]? = some [intsI sts[m]] := get_mapZ (f := fun r => [intsI r]) h4
          have hxl := (mem_subs (hgd.ok _ (List.getElem_mem h4))).1
          rw [List.drop_eq_getElem_cons h4, List.findIdx_cons] at hR1
          generalize sts[m] = x at *
          have hxe : eqB nx x = decide (x = nx) := by simp only [eqB]; exact decide_eq_decide.2 ⟨Eq.symm, Eq.symm⟩
          rw [hxe] at hR1
          first | refine g_need Tk Tryz.func63 (by exact ⟨by omega, by show (m : Int) < (sts.length : Int); omega⟩) ?_ | refine s_need Tk (by exact ⟨by omega, by show (m : Int) < (sts.length : Int); omega⟩) ?_
          first | refine g_elem Tk Tryz.func63 (gm) ?_ | refine s_elem Tk (gm) ?_
          first | refine g_call Tk Tryz.func63 (sameInts36 _ x nx (by simp only [max63]; omega)) rfl rfl rfl rfl rfl ?_ | refine s_callq Tk (fun _ => sameInts36 _ x nx (by simp only [max63]; omega)) rfl rfl rfl ?_
          first | refine g_cnd Tk Tryz.func63 rfl (fun c4 => ?_) (fun c4 => ?_) | refine g_know Tk Tryz.func63 rfl (fun c4 => ?_) (fun c4 => ?_) | refine s_know Tk (fun c4 => ?_) (fun c4 => ?_)
          · have c4 : ¬ x = nx := of_decide_eq_false (notT c4)
            rw [decide_eq_false c4] at hR1
            simp only [cond_false] at hR1
            refine g_loop ?_
            exact ih3 (m + 1) _ _ ⟨h4, by omega⟩ (by omega) ⟨rfl, rfl, rfl, rfl, rfl, rfl, rfl, rfl, congrArg ii (wsucc (n := 4096) (by omega) (by decide)), trivial⟩ rfl ⟨rfl, rfl, rfl, rfl, rfl, rfl, trivial⟩ rfl rfl
          · have c4 : x = nx := of_decide_eq_true (notF c4)
            rw [decide_eq_true c4] at hR1
            simp only [cond_true, Nat.add_zero] at hR1
            subst hR1
            refine g_stop ?_
            refine rch_meet (J trivial) ⟨rfl, rfl, rfl, rfl, rfl, rfl, rfl, rfl, rfl, trivial⟩ rfl ⟨rfl, rfl, rfl, rfl, rfl, rfl, trivial⟩ rfl rfl
        · have h4 : sts.length ≤ m := by simpa using g3
          rw [List.drop_eq_nil_of_le h4] at hR1
          have hR1 : t = m := by simpa using hR1
          subst hR1
          repeat (first | refine gcT Tk Tryz.func63 rfl ?_ | refine gkT Tk Tryz.func63 rfl ?_ | refine skT Tk ?_ | refine gcF Tk Tryz.func63 rfl ?_ | refine gkF Tk Tryz.func63 rfl ?_ | refine skF Tk ?_)
          refine g_stop ?_
          refine rch_meet (J trivial) ⟨rfl, rfl, rfl, rfl, rfl, rfl, rfl, rfl, rfl, trivial⟩ rfl ⟨rfl, rfl, rfl, rfl, rfl, rfl, trivial⟩ rfl rfl
      intro _
      clear hR0
      refine g_run Tk Tryz.func63 ?_
      refine g_go Tk Tryz.func63 ?_
      apply join_p (P := True) (s6 := { σ := [(1, ints on), (2, .own 0 2 0 0), (4, .own 0 4 0 0), (6, .own 0 6 0 0), (7, .osl 0 106), (8, ii i), (10, ii j), (12, ii t)], S := [(2, .box [ints al, ii n, ints mk, edgs es]), (4, zBox), (6, .box [ints kp, ii 0, .osl 0 60, .osl 0 118]), (106, orows sts2), (60, oints mk'), (118, oedgs eds)] :: O, n := 125 })
      · intro J
        first | refine g_cnd Tk Tryz.func63 rfl (fun c3 => ?_) (fun c3 => ?_) | refine g_know Tk Tryz.func63 rfl (fun c3 => ?_) (fun c3 => ?_) | refine s_know Tk (fun c3 => ?_) (fun c3 => ?_)
        · have c3 : ((t : Nat) : Int) = ((sts.length : Nat) : Int) := beqT c3
          rw [if_neg (by omega)] at hst2
          subst hst2
          first | refine g_need Tk Tryz.func63 (by exact ⟨by show (sts.length + 1) * 24 ≤ 140737488355328; omega, by show sts.length + 1 ≤ 9223372036854775807; omega⟩) ?_ | refine s_need Tk (by exact ⟨by show (sts.length + 1) * 24 ≤ 140737488355328; omega, by show sts.length + 1 ≤ 9223372036854775807; omega⟩) ?_
          refine g_stop ?_
          refine rch_meet (J trivial) ⟨rfl, rfl, rfl, rfl, rfl, rfl, rfl, rfl, trivial⟩ rfl ⟨rfl, rfl, rfl, congrArg some (orows_app sts nx), rfl, rfl, trivial⟩ rfl rfl
        · have c3 : ((t : Nat) : Int) ≠ ((sts.length : Nat) : Int) := beqF c3
          rw [if_pos (by omega)] at hst2
          subst hst2
          refine g_stop ?_
          refine rch_meet (J trivial) ⟨rfl, rfl, rfl, rfl, rfl, rfl, rfl, rfl, trivial⟩ rfl ⟨rfl, rfl, rfl, rfl, rfl, rfl, trivial⟩ rfl rfl
      · intro _
        obtain ⟨hV, hg2, hi2, hs2⟩ := hU2
        clear hst2 hx1 hgd hil hsi gs
        refine g_run Tk Tryz.func63 ?_
        refine g_go Tk Tryz.func63 ?_
        refine g_drawn Tk Tryz.func63 mixedT rfl ?_
        first | refine g_need Tk Tryz.func63 (by exact n2) ?_ | refine s_need Tk (by exact n2) ?_
        first | refine g_elem Tk Tryz.func63 (ga) ?_ | refine s_elem Tk (ga) ?_
        refine e_tail Tk Tryz.func63 ([11, 12, 13]) (by kernel_rfl) (by kernel_rfl) ?_
        first | refine g_need Tk Tryz.func63 (by exact ⟨by show (eds.length + 1) * 24 ≤ 140737488355328; omega, by show eds.length + 1 ≤ 9223372036854775807; omega⟩) ?_ | refine s_need Tk (by exact ⟨by show (eds.length + 1) * 24 ≤ 140737488355328; omega, by show eds.length + 1 ≤ 9223372036854775807; omega⟩) ?_
        refine g_loop ?_
        exact ih2 (j + 1, ⟨sts2, mk', eds ++ [((i : Int), ev, (t : Int))]⟩) _ _ ⟨h3, hg2, hi2, rfl, by simp only [List.length_append, List.length_singleton]; omega, hs2, hV⟩ (by simp only; omega) ⟨rfl, rfl, rfl, rfl, rfl, rfl, hj1, trivial⟩ rfl ⟨rfl, rfl, rfl, rfl, rfl, congrArg some (oedgs_app eds ((i : Int), ev, (t : Int))), trivial⟩ rfl rfl
    · have h3 : kp.length ≤ j := by simpa using g2
      rw [List.drop_eq_nil_of_le h3] at hV
      simp only [uvisits] at hV
      subst hV
      simp only at hno
      refine g_loop ?_
      exact ih (i + 1, ⟨sts, mk', eds⟩) _ _ ⟨by simp only; omega, hgd, ⟨hmll, hmlt1⟩, by simp only; omega, hno⟩ (by simp only; omega) ⟨rfl, rfl, rfl, rfl, rfl, congrArg ii (wsucc (n := 4096) (by omega) (by decide)), trivial⟩ rfl ⟨rfl, rfl, rfl, rfl, rfl, rfl, trivial⟩ rfl rfl
  · have h1 : U.sts.length ≤ i := by simpa using g1
    rw [uloop_done h1] at hno
    rw [← hR] at hno
    simp only [Except.ok.injEq] at hno
    subst hno
    obtain ⟨sts, mk', eds⟩ := V
    refine g_rwk (wk_freeze 106 rfl rfl) ?_
    refine g_rwk (wk_freeze 60 rfl rfl) ?_
    refine g_rwk (wk_freeze 118 rfl rfl) ?_
    refine g_rwk (wk_imm rfl) ?_
    refine g_ret Tk (r := .tup [autD ⟨kp, sts.length, mk', eds⟩, .i (rowsS sts)]) rfl rfl rfl trivial rfl rfl ?_
    rfl
end Go.AI


namespace Go.AI
theorem uvisit_pre {σ : Type} {eq : σ → σ → Bool} {lim : Bool} {step : σ → Int → σ × Bool × Int} {i : Nat} {s : σ} {ev : Int} {U V : Unf σ} (h : uvisit eq lim step i s ev U = .ok V) : U.sts <+: V.sts := by
  unfold uvisit at h
  split at h
  · cases h
  split at h
  · simp only [Except.ok.injEq] at h; subst h; exact List.prefix_refl _
  split at h
  · simp only [Except.ok.injEq] at h; subst h; exact List.prefix_refl _
  split at h
  · cases h
  · simp only [Except.ok.injEq] at h; subst h; exact List.prefix_append _ _
theorem uvisits_pre {σ : Type} {eq : σ → σ → Bool} {lim : Bool} {step : σ → Int → σ × Bool × Int} {i : Nat} {s : σ} : ∀ {l : List Int} {U V : Unf σ}, uvisits eq lim step i s l U = .ok V → U.sts <+: V.sts
  | [], U, V, h => by simp only [uvisits, Except.ok.injEq] at h; subst h; exact List.prefix_refl _
  | ev :: r, U, V, h => by
    simp only [uvisits] at h
    cases h1 : uvisit eq lim step i s ev U with
    | error e => rw [h1] at h; cases h
    | ok U' => rw [h1] at h; exact (uvisit_pre h1).trans (uvisits_pre h)
theorem uloop_pre {σ : Type} {eq : σ → σ → Bool} {lim : Bool} {step : σ → Int → σ × Bool × Int} {mkd : σ → Bool} {alpha : List Int} : ∀ {f i : Nat} {U V : Unf σ}, uloop eq lim step mkd alpha f i U = .ok V → U.sts <+: V.sts
  | 0, i, U, V, h => by simp only [uloop, Except.ok.injEq] at h; subst h; exact List.prefix_refl _
  | f + 1, i, U, V, h => by
    simp only [uloop] at h
    cases hs : U.sts[i]? with
    | none => rw [hs] at h; simp only [Except.ok.injEq] at h; subst h; exact List.prefix_refl _
    | some s =>
      rw [hs] at h
      simp only at h
      cases h1 : uvisits eq lim step i s alpha (umark mkd i s U) with
      | error e => rw [h1] at h; cases h
      | ok U' =>
        rw [h1] at h
        have := uvisits_pre h1
        rw [(umark_sts mkd i s U).1] at this
        exact this.trans (uloop_pre h)
structure PrjOk (b : Aut) (on : List Int) (n : Nat) (V : Unf (List Int)) : Prop where
  fst : V.sts[0]? = some (clo b.edges (lowP on [] false) n [0])
  nd : V.sts.Nodup
  el : ∀ s ∈ V.sts, s ∈ subs n
  ne : ∀ s ∈ V.sts, s ≠ []
  mrk : ∀ (i : Nat) E, V.sts[i]? = some E → decide ((i : Int) ∈ V.mkl) = marksR b E
  st : ∀ (i : Nat) E, V.sts[i]? = some E → ∀ ev ∈ keptR b on, (nxt b.edges (lowP on [] false) n E ev = [] ∧ stp3 V.eds i ev = -1) ∨
    ∃ j : Nat, stp3 V.eds i ev = (j : Int) ∧ V.sts[j]? = some (nxt b.edges (lowP on [] false) n E ev) ∧ nxt b.edges (lowP on [] false) n E ev ≠ []
  len : V.sts.length ≤ 32 ∧ V.mkl.length ≤ 32 ∧ V.eds.length ≤ 32 * 32
theorem prj_some2 {b : Aut} {n : Nat} (h : gAut b n) (on : List Int) (hn : n ≤ 5) (hn0 : 0 < n) : ∃ V, prjR b on n = .ok V ∧ UAt (marksR b) (keptR b on) (fun s => s ∈ subs n ∧ s ≠ []) (pStep b on n) V.sts.length V := by
  have hF : Fin1 (pStep b on n) eqB false (fun s => s ∈ subs n ∧ s ≠ []) := ⟨fun s ev _ hp => ⟨sorted_subs _ _, fun e => by
    have hp : decide ((nxt b.edges (lowP on [] false) n s ev).length ≠ 0) = true := hp
    have e : nxt b.edges (lowP on [] false) n s ev = [] := e
    rw [e] at hp
    exact absurd hp (by decide)⟩, fun _ _ _ _ => rfl, fun h => by cases h⟩
  have hf : clo b.edges (lowP on [] false) n [0] ≠ [] := by
    have h0 : (0 : Int) ∈ clo b.edges (lowP on [] false) n [0] := (mem_clo h.to).2 ⟨by omega, .base (by simp)⟩
    intro e
    rw [e] at h0
    cases h0
  rcases unfR_spec (marksR b) hF (alpha := keptR b on) (first := clo b.edges (lowP on [] false) n [0]) ⟨sorted_subs _ _, hf⟩ (B := 32) (fun l h1 h2 => by
    have := nodup_sub h2 (fun s hs => (h1 s hs).1)
    rw [subs_len] at this
    have : 2 ^ n ≤ 2 ^ 5 := Nat.pow_le_pow_right (by decide) hn
    omega) (by decide) with ⟨e, _, h1, s, _, ev, _, h2⟩ | h
  · exact absurd h2.symm h1
  · exact h
theorem prj_ok {b : Aut} {on : List Int} {n : Nat} (h : gAut b n) (hn : n ≤ 5) (hn0 : 0 < n) : ∃ V, prjR b on n = .ok V ∧ PrjOk b on n V := by
  obtain ⟨V, hV, hU⟩ := prj_some2 h on hn hn0
  refine ⟨V, hV, ?_⟩
  have hpre := uloop_pre (show uloop eqB false (pStep b on n) (marksR b) (keptR b on) 4097 0 (unf0 (clo b.edges (lowP on [] false) n [0])) = .ok V from hV)
  have hlen : V.sts.length ≤ 32 := by
    have := nodup_sub hU.nd (fun s hs => (hU.ok s hs).1)
    rw [subs_len] at this
    have : 2 ^ n ≤ 2 ^ 5 := Nat.pow_le_pow_right (by decide) hn
    omega
  obtain ⟨c1, c2, c3, c4⟩ := chk_parts h.c
  have hal := checkSet_len (by decide) c1
  have hal : b.alpha.length ≤ 32 := by omega
  have hkl : (keptR b on).length ≤ 32 := Nat.le_trans (List.length_filter_le _ _) hal
  have hkp : (keptR b on).Pairwise (· < ·) := (checkSet_sorted c1).1.filter _
  have hrow : ∀ (k : Nat) (x : Edg) s, x ∈ (keptR b on).filterMap (eOf (pStep b on n) V.sts k s) → x.1 = (k : Int) ∧ x.2.1 ∈ keptR b on ∧ nxt b.edges (lowP on [] false) n s x.2.1 ≠ [] ∧ x.2.2 = (V.sts.findIdx (eqB (nxt b.edges (lowP on [] false) n s x.2.1)) : Nat) := by
    intro k x s hx
    obtain ⟨ev, he, hx⟩ := List.mem_filterMap.1 hx
    unfold eOf at hx
    by_cases c : (pStep b on n s ev).2.1 = true
    · rw [if_pos c] at hx
      obtain rfl := Option.some.inj hx
      refine ⟨rfl, he, ?_, rfl⟩
      have c := of_decide_eq_true c
      intro e
      exact c (by rw [e]; rfl)
    · rw [if_neg c] at hx; cases hx
  have hpw : V.eds.Pairwise ltE := by
    rw [hU.eds]
    refine rows_lt (fun i x hx => ?_) (fun i => ?_) _
    · cases hs : V.sts[i]? with
      | none => rw [hs] at hx; cases hx
      | some s => rw [hs] at hx; exact (hrow i x s hx).1
    · cases hs : V.sts[i]? with
      | none => exact .nil
      | some s =>
        refine List.Pairwise.filterMap _ (fun p q hpq x hx y hy => ?_) hkp
        unfold eOf at hx hy
        by_cases cp : (pStep b on n s p).2.1 = true
        · by_cases cq : (pStep b on n s q).2.1 = true
          · rw [if_pos cp] at hx
            rw [if_pos cq] at hy
            obtain rfl := Option.some.inj hx
            obtain rfl := Option.some.inj hy
            exact hpq
          · rw [if_neg cq] at hy; cases hy
        · rw [if_neg cp] at hx; cases hx
  refine ⟨?_, hU.nd, fun s hs => (hU.ok s hs).1, fun s hs => (hU.ok s hs).2, fun i E hE => ?_, fun i E hE ev hev => ?_, hlen, ?_, ?_⟩
  · obtain ⟨r, hr⟩ := hpre
    rw [← hr]
    rfl
  · have hi : i < V.sts.length := (List.getElem?_eq_some_iff.1 hE).1
    refine Bool.eq_iff_iff.2 ?_
    rw [decide_eq_true_eq, hU.mkl, List.mem_map]
    constructor
    · rintro ⟨k, hk, e⟩
      have : k = i := by omega
      subst this
      have := (List.mem_filter.1 hk).2
      rw [hE] at this
      exact this
    · intro hm
      refine ⟨i, List.mem_filter.2 ⟨List.mem_range.2 hi, ?_⟩, rfl⟩
      rw [hE]
      exact hm
  · have hi : i < V.sts.length := (List.getElem?_eq_some_iff.1 hE).1
    by_cases c : nxt b.edges (lowP on [] false) n E ev = []
    · refine .inl ⟨c, stp3_no fun e he hc => ?_⟩
      rw [hU.eds] at he
      obtain ⟨k, hk, he⟩ := List.mem_flatMap.1 he
      cases hs : V.sts[k]? with
      | none => rw [hs] at he; cases he
      | some s =>
        rw [hs] at he
        obtain ⟨h2, h3, h4, h5⟩ := hrow k e s he
        have hki : k = i := by have := hc.1; omega
        subst hki
        rw [hE] at hs
        obtain rfl := Option.some.inj hs
        rw [hc.2] at h4
        exact h4 c
    · have hf := (hU.fine i E hi hE ev hev).2 (by
        show decide _ = true
        exact decide_eq_true fun e => c (List.eq_nil_of_length_eq_zero e))
      have hget := idx_get hf
      refine .inr ⟨_, ?_, hget, c⟩
      have hmem : ((i : Int), ev, ((V.sts.findIdx (eqB (pStep b on n E ev).1) : Nat) : Int)) ∈ V.eds := by
        rw [hU.eds]
        refine List.mem_flatMap.2 ⟨i, List.mem_range.2 hi, ?_⟩
        rw [hE]
        refine List.mem_filterMap.2 ⟨ev, hev, ?_⟩
        unfold eOf
        have hs2 : (pStep b on n E ev).2.1 = true := decide_eq_true fun e => c (List.eq_nil_of_length_eq_zero e)
        rw [if_pos hs2]
      exact stp3_of hpw hmem
  · rw [hU.mkl, List.length_map]
    exact Nat.le_trans (List.length_filter_le _ _) (by rw [List.length_range]; exact hlen)
  · rw [hU.eds]
    refine Nat.le_trans (flat_lenN (N := 32) fun k _ => ?_) (by rw [List.length_range]; omega)
    split
    · simp
    · exact Nat.le_trans (List.length_filterMap_le _ _) hkl
abbrev NP := Nat × Nat
section
variable (b c : Aut) (lp : Int → Bool) (n : Nat) (kp : List Int) (V W : Unf (List Int))
def atW (t : List Int) (z : NP) : Prop := V.sts[z.1]? = some (nxtL b.edges lp n (clo b.edges lp n [0]) t) ∧ W.sts[z.2]? = some (nxtL c.edges lp n (clo c.edges lp n [0]) t)
def fineE (l : List NP) (z : NP) (ev : Int) : Prop := ∀ E F, V.sts[z.1]? = some E → W.sts[z.2]? = some F → (nxt b.edges lp n E ev = [] ↔ nxt c.edges lp n F ev = []) ∧
  (nxt b.edges lp n E ev ≠ [] → ∃ y ∈ l, V.sts[y.1]? = some (nxt b.edges lp n E ev) ∧ W.sts[y.2]? = some (nxt c.edges lp n F ev))
def fineM (z : NP) : Prop := ∀ E F, V.sts[z.1]? = some E → W.sts[z.2]? = some F → marksR b E = marksR c F
structure prOk (i : Nat) (l : List NP) : Prop where
  nd : l.Nodup
  zero : (0, 0) ∈ l
  at_ : ∀ z ∈ l, ∃ t, (∀ ev ∈ t, ev ∈ kp) ∧ atW b c lp n V W t z
  mrk : ∀ (k : Nat) z, k < i → l[k]? = some z → fineM b c V W z
  ev : ∀ (k : Nat) z, k < i → l[k]? = some z → ∀ ev ∈ kp, fineE b c lp n V W l z ev
variable {b c lp n kp V W}
theorem fineE_mono {l m : List NP} (h : ∀ z ∈ l, z ∈ m) {z : NP} {ev : Int} (hf : fineE b c lp n V W l z ev) : fineE b c lp n V W m z ev := fun E F h1 h2 => ⟨(hf E F h1 h2).1, fun hne => by
  obtain ⟨y, hy, h3⟩ := (hf E F h1 h2).2 hne
  exact ⟨y, h y hy, h3⟩⟩
theorem prOk_len {i : Nat} {l : List NP} (h : prOk b c lp n kp V W i l) (hV : V.sts.length ≤ 32) (hW : W.sts.length ≤ 32) : l.length ≤ 1024 := by
  have hs : ∀ z ∈ l, z ∈ (List.range V.sts.length).flatMap fun x => (List.range W.sts.length).map fun y => (x, y) := by
    intro z hz
    obtain ⟨t, _, h1, h2⟩ := h.at_ z hz
    refine List.mem_flatMap.2 ⟨z.1, List.mem_range.2 (List.getElem?_eq_some_iff.1 h1).1, List.mem_map.2 ⟨z.2, List.mem_range.2 (List.getElem?_eq_some_iff.1 h2).1, rfl⟩⟩
  have h1 := nodup_sub h.nd hs
  have h2 := flat_lenN (f := fun x => (List.range W.sts.length).map fun y => (x, y)) (l := List.range V.sts.length) (N := 32) fun x _ => by rw [List.length_map, List.length_range]; exact hW
  rw [List.length_range] at h2
  omega
theorem nxtL_snoc (es : List Edg) (p : Int → Bool) (n : Nat) (l : List Int) (t : List Int) (ev : Int) : nxtL es p n l (t ++ [ev]) = nxt es p n (nxtL es p n l t) ev := by
  unfold nxtL
  rw [List.foldl_append]
  rfl
theorem prOk_done {l : List NP} {i : Nat} (h : prOk b c lp n kp V W i l) (hi : l.length ≤ i) (hV : ∀ s ∈ V.sts, s ≠ []) (hW : ∀ s ∈ W.sts, s ≠ []) (hV0 : V.sts[0]? = some (clo b.edges lp n [0])) (hW0 : W.sts[0]? = some (clo c.edges lp n [0])) : ∀ t, (∀ ev ∈ t, ev ∈ kp) → badX b c (nxtL b.edges lp n (clo b.edges lp n [0]) t) (nxtL c.edges lp n (clo c.edges lp n [0]) t) = false := by
  have key : ∀ (t : List Int) (z : NP) (E F : List Int), z ∈ l → V.sts[z.1]? = some E → W.sts[z.2]? = some F → (∀ ev ∈ t, ev ∈ kp) → badX b c (nxtL b.edges lp n E t) (nxtL c.edges lp n F t) = false := by
    intro t
    induction t with
    | nil =>
      intro z E F hz hE hF _
      obtain ⟨k, hk, e⟩ := List.getElem_of_mem hz
      have hm := h.mrk k z (by omega) (by rw [List.getElem?_eq_getElem hk, e]) E F hE hF
      show badX b c E F = false
      have e1 : decide (E.length = 0) = false := decide_eq_false fun e => hV E (List.mem_of_getElem? hE) (List.eq_nil_of_length_eq_zero e)
      have e2 : decide (F.length = 0) = false := decide_eq_false fun e => hW F (List.mem_of_getElem? hF) (List.eq_nil_of_length_eq_zero e)
      unfold badX
      rw [e1, e2, hm]
      simp
    | cons ev r ih =>
      intro z E F hz hE hF ht
      obtain ⟨k, hk, e⟩ := List.getElem_of_mem hz
      obtain ⟨h1, h2⟩ := h.ev k z (by omega) (by rw [List.getElem?_eq_getElem hk, e]) ev (ht ev (by simp)) E F hE hF
      show badX b c (nxtL b.edges lp n (nxt b.edges lp n E ev) r) (nxtL c.edges lp n (nxt c.edges lp n F ev) r) = false
      by_cases hc : nxt b.edges lp n E ev = []
      · rw [hc, h1.1 hc, nxtL_nil, nxtL_nil]
        rfl
      · obtain ⟨y, hy, h3, h4⟩ := h2 hc
        exact ih y _ _ hy h3 h4 fun e he => ht e (by simp [he])
  exact fun t ht => key t (0, 0) _ _ h.zero hV0 hW0 ht
theorem prOk_init (hV0 : V.sts[0]? = some (clo b.edges lp n [0])) (hW0 : W.sts[0]? = some (clo c.edges lp n [0])) : prOk b c lp n kp V W 0 [(0, 0)] :=
  ⟨by simp, by simp, fun z hz => by
    rw [List.mem_singleton] at hz
    subst hz
    exact ⟨[], by simp, hV0, hW0⟩, fun k z hk => absurd hk (Nat.not_lt_zero _), fun k z hk => absurd hk (Nat.not_lt_zero _)⟩
theorem prOk_next {i : Nat} {l : List NP} {z : NP} (h : prOk b c lp n kp V W i l) (hz : l[i]? = some z) (hm : fineM b c V W z) (he : ∀ ev ∈ kp, fineE b c lp n V W l z ev) : prOk b c lp n kp V W (i + 1) l :=
  ⟨h.nd, h.zero, h.at_, fun k y hk hy => by
    by_cases hki : k = i
    · subst hki
      rw [hz] at hy
      obtain rfl := Option.some.inj hy
      exact hm
    · exact h.mrk k y (by omega) hy, fun k y hk hy ev hev => by
    by_cases hki : k = i
    · subst hki
      rw [hz] at hy
      obtain rfl := Option.some.inj hy
      exact he ev hev
    · exact h.ev k y (by omega) hy ev hev⟩
theorem prOk_app {i : Nat} {l : List NP} {y : NP} (h : prOk b c lp n kp V W i l) (hi : i < l.length) (hy : y ∉ l) (ha : ∃ t, (∀ ev ∈ t, ev ∈ kp) ∧ atW b c lp n V W t y) : prOk b c lp n kp V W i (l ++ [y]) := by
  have hget : ∀ k z, k < i → (l ++ [y])[k]? = some z → l[k]? = some z := fun k z hk e => by rwa [List.getElem?_append_left (by omega)] at e
  refine ⟨?_, List.mem_append_left _ h.zero, fun z hz => ?_, fun k z hk e => h.mrk k z hk (hget k z hk e), fun k z hk e ev hev => fineE_mono (fun z hz => List.mem_append_left _ hz) (h.ev k z hk (hget k z hk e) ev hev)⟩
  · unfold List.Nodup
    rw [List.pairwise_append]
    refine ⟨h.nd, List.pairwise_singleton _ _, fun p hp q hq => ?_⟩
    rw [List.mem_singleton] at hq
    subst hq
    exact fun e => hy (e ▸ hp)
  · rcases List.mem_append.1 hz with hz | hz
    · exact h.at_ z hz
    · rw [List.mem_singleton] at hz; subst hz; exact ha
end
section
variable {b c : Aut} {on : List Int} {n : Nat} {kp : List Int} {V W : Unf (List Int)}
theorem pr_mark (hP : PrjOk b on n V) (hQ : PrjOk c on n W) {i : Nat} {l : List NP} {z : NP} (h : prOk b c (lowP on [] false) n kp V W i l) (hz : z ∈ l) :
    if (decide ((z.1 : Int) ∈ V.mkl) != decide ((z.2 : Int) ∈ W.mkl)) = true then ∃ t, (∀ ev ∈ t, ev ∈ kp) ∧ badX b c (nxtL b.edges (lowP on [] false) n (clo b.edges (lowP on [] false) n [0]) t) (nxtL c.edges (lowP on [] false) n (clo c.edges (lowP on [] false) n [0]) t) = true else fineM b c V W z := by
  obtain ⟨t, ht, h1, h2⟩ := h.at_ z hz
  rw [hP.mrk z.1 _ h1, hQ.mrk z.2 _ h2]
  split
  · rename_i hne
    refine ⟨t, ht, ?_⟩
    unfold badX
    rw [hne, Bool.or_true]
  · rename_i hne
    intro E F hE hF
    rw [h1] at hE
    rw [h2] at hF
    obtain rfl := Option.some.inj hE
    obtain rfl := Option.some.inj hF
    revert hne
    cases marksR b _ <;> cases marksR c _ <;> simp
theorem pr_step (hP : PrjOk b on n V) (hQ : PrjOk c on n W) (hb : keptR b on = kp) (hc : keptR c on = kp) {i : Nat} {l : List NP} {z : NP} (h : prOk b c (lowP on [] false) n kp V W i l) (hz : l[i]? = some z) {ev : Int} (hev : ev ∈ kp) :
    (stp3 V.eds z.1 ev < 0 ∧ stp3 W.eds z.2 ev < 0 ∧ fineE b c (lowP on [] false) n V W l z ev) ∨
    (∃ y : NP, stp3 V.eds z.1 ev = (y.1 : Int) ∧ stp3 W.eds z.2 ev = (y.2 : Int) ∧ (y ∈ l → fineE b c (lowP on [] false) n V W l z ev) ∧ (y ∉ l → prOk b c (lowP on [] false) n kp V W i (l ++ [y]) ∧ fineE b c (lowP on [] false) n V W (l ++ [y]) z ev)) ∨
    ((decide (stp3 V.eds z.1 ev < 0) != decide (stp3 W.eds z.2 ev < 0)) = true ∧ ∃ t, (∀ ev ∈ t, ev ∈ kp) ∧ badX b c (nxtL b.edges (lowP on [] false) n (clo b.edges (lowP on [] false) n [0]) t) (nxtL c.edges (lowP on [] false) n (clo c.edges (lowP on [] false) n [0]) t) = true) := by
  have hi : i < l.length := (List.getElem?_eq_some_iff.1 hz).1
  obtain ⟨t, ht, h1, h2⟩ := h.at_ z (List.mem_of_getElem? hz)
  have e1 := hP.st z.1 _ h1 ev (by rw [hb]; exact hev)
  have e2 := hQ.st z.2 _ h2 ev (by rw [hc]; exact hev)
  have htt : ∀ e ∈ t ++ [ev], e ∈ kp := fun e he => by
    rcases List.mem_append.1 he with he | he
    · exact ht e he
    · rw [List.mem_singleton] at he; subst he; exact hev
  have hbad : ∀ {E F : List Int}, (decide (E.length = 0) != decide (F.length = 0)) = true → badX b c E F = true := fun h => by unfold badX; rw [h, Bool.true_or]
  have hfin : ∀ {E F : List Int}, V.sts[z.1]? = some E → W.sts[z.2]? = some F → E = nxtL b.edges (lowP on [] false) n (clo b.edges (lowP on [] false) n [0]) t ∧ F = nxtL c.edges (lowP on [] false) n (clo c.edges (lowP on [] false) n [0]) t := fun hE hF => by
    rw [h1] at hE
    rw [h2] at hF
    exact ⟨(Option.some.inj hE).symm, (Option.some.inj hF).symm⟩
  have ln : ∀ {E : List Int}, E ≠ [] → decide (E.length = 0) = false := fun h => decide_eq_false fun e => h (List.eq_nil_of_length_eq_zero e)
  rcases e1 with ⟨a1, a2⟩ | ⟨j1, a1, a2, a3⟩
  · rcases e2 with ⟨b1, b2⟩ | ⟨j2, b1, b2, b3⟩
    · refine .inl ⟨by rw [a2]; decide, by rw [b2]; decide, fun E F hE hF => ?_⟩
      obtain ⟨rfl, rfl⟩ := hfin hE hF
      exact ⟨⟨fun _ => b1, fun _ => a1⟩, fun hne => absurd a1 hne⟩
    · refine .inr (.inr ⟨?_, t ++ [ev], htt, ?_⟩)
      · have : ¬ ((j2 : Int) < 0) := by omega
        rw [a2, b1]
        simp [this]
      · rw [nxtL_snoc, nxtL_snoc, a1]
        refine hbad ?_
        rw [ln b3]
        rfl
  · rcases e2 with ⟨b1, b2⟩ | ⟨j2, b1, b2, b3⟩
    · refine .inr (.inr ⟨?_, t ++ [ev], htt, ?_⟩)
      · have : ¬ ((j1 : Int) < 0) := by omega
        rw [a1, b2]
        simp [this]
      · rw [nxtL_snoc, nxtL_snoc, b1]
        refine hbad ?_
        rw [ln a3]
        rfl
    · have hf : ∀ m : List NP, (j1, j2) ∈ m → fineE b c (lowP on [] false) n V W m z ev := fun m hm E F hE hF => by
        obtain ⟨rfl, rfl⟩ := hfin hE hF
        exact ⟨⟨fun e => absurd e a3, fun e => absurd e b3⟩, fun _ => ⟨(j1, j2), hm, a2, b2⟩⟩
      exact .inr (.inl ⟨(j1, j2), a1, b1, fun hm => hf l hm, fun hm => ⟨prOk_app h hi hm ⟨t ++ [ev], htt, by rw [nxtL_snoc]; exact a2, by rw [nxtL_snoc]; exact b2⟩, hf _ (by simp)⟩⟩)
end
end Go.AI
