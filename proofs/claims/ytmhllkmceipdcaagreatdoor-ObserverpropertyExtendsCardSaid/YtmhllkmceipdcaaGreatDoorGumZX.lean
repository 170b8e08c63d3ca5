/- The layer of abstract runs, part 50. -/
import Derived.Test.YtmhllkmceipdcaaGreatDoorGumZW
set_option linter.unusedSimpArgs false
set_option linter.unusedVariables false
set_option linter.all false

/- Plain: the search and its list; searches that are images of one another. -/
namespace Go.AI
section
variable {S : Type} [DecidableEq S]
theorem bvis_pre (nx : S → Int → S) (ok : S → Bool) (x : S × List Int) : ∀ (es : List Int) (l : List (S × List Int)), l <+: bvis nx ok x es l
  | [], l => List.prefix_refl l
  | ev :: r, l => by
    simp only [bvis]
    split
    · exact (List.prefix_append _ _).trans (bvis_pre nx ok x r _)
    · exact bvis_pre nx ok x r l
theorem bfull_pre (nx : S → Int → S) (ok : S → Bool) (evs : S → List Int) : ∀ (f i : Nat) (l : List (S × List Int)), l <+: bfull nx ok evs f i l
  | 0, _, l => List.prefix_refl l
  | f + 1, i, l => by
    simp only [bfull]
    split
    · exact List.prefix_refl l
    · exact (bvis_pre nx ok _ _ l).trans (bfull_pre nx ok evs f (i + 1) _)
theorem bvis_ok {V : List S} {nx : S → Int → S} {ok : S → Bool} {x : S × List Int} {i : Nat} : ∀ {es : List Int} {l : List (S × List Int)}, (∀ ev ∈ es, ok (nx x.1 ev) = true → nx x.1 ev ∈ V) → bOk V l → l[i]? = some x → bOk V (bvis nx ok x es l)
  | [], l, _, h, _ => h
  | ev :: r, l, hv, h, hi => by
    have hv2 : ∀ ev ∈ r, ok (nx x.1 ev) = true → nx x.1 ev ∈ V := fun e he => hv e (by simp [he])
    simp only [bvis]
    split
    · rename_i hc
      refine bvis_ok (i := i) hv2 (bOk_app h hi (hv ev (by simp) hc.1) hc.2 ev) ?_
      have : i < l.length := (List.getElem?_eq_some_iff.1 hi).1
      rw [List.getElem?_append_left this]
      exact hi
    · exact bvis_ok hv2 h hi
theorem bfull_ok {V : List S} {nx : S → Int → S} {ok : S → Bool} {evs : S → List Int} (hv : ∀ x ∈ V, ∀ ev ∈ evs x, ok (nx x ev) = true → nx x ev ∈ V) : ∀ (f i : Nat) (l : List (S × List Int)), bOk V l → bOk V (bfull nx ok evs f i l)
  | 0, _, l, h => h
  | f + 1, i, l, h => by
    simp only [bfull]
    cases hi : l[i]? with
    | none => exact h
    | some x =>
      have hx : x.1 ∈ V := h.el x (List.mem_of_getElem? hi)
      exact bfull_ok hv f (i + 1) _ (bvis_ok (hv x.1 hx) h hi)
/-- The search finds the first bad node of its list. -/
theorem bsr_find {V : List S} {nx : S → Int → S} {ok : S → Bool} {evs : S → List Int} {bad : S → Bool} (hv : ∀ x ∈ V, ∀ ev ∈ evs x, ok (nx x ev) = true → nx x ev ∈ V) {N : Nat} (hN : V.length < N) : ∀ (f i : Nat) (l : List (S × List Int)), f + i = N → i ≤ l.length → bOk V l → (∀ z ∈ l.take i, bad z.1 = false) →
    bsr nx ok evs bad f i l = (bfull nx ok evs f i l).find? fun z => bad z.1
  | 0, i, l, hf, hi, h, _ => by
    have := bOk_len h
    omega
  | f + 1, i, l, hf, hi, h, hb => by
    simp only [bsr, bfull]
    cases hg : l[i]? with
    | none =>
      have : l.length ≤ i := by
        rcases Nat.lt_or_ge i l.length with h1 | h1
        · rw [List.getElem?_eq_getElem h1] at hg; cases hg
        · exact h1
      rw [List.take_of_length_le this] at hb
      simp only
      symm
      rw [List.find?_eq_none]
      intro z hz
      rw [hb z hz]; simp
    | some x =>
      have hlt : i < l.length := (List.getElem?_eq_some_iff.1 hg).1
      have hx : x.1 ∈ V := h.el x (List.mem_of_getElem? hg)
      have htk : l.take (i + 1) = l.take i ++ [x] := by rw [List.take_add_one, hg]; rfl
      simp only
      by_cases hbx : bad x.1 = true
      · rw [if_pos hbx]
        obtain ⟨r1, hr1⟩ := bvis_pre nx ok x (evs x.1) l
        obtain ⟨r2, hr2⟩ := bfull_pre nx ok evs f (i + 1) (bvis nx ok x (evs x.1) l)
        rw [← hr2, ← hr1]
        have hl : l = l.take i ++ (x :: l.drop (i + 1)) := by
          have h0 := List.take_append_drop (i + 1) l
          rw [htk, List.append_assoc] at h0
          exact h0.symm
        symm
        rw [hl, List.append_assoc, List.append_assoc, List.find?_append, List.find?_eq_none.2 (fun z hz => by rw [hb z hz]; simp), Option.none_or, List.cons_append, List.find?_cons, hbx]
      · rw [if_neg hbx]
        have hp := bvis_pre nx ok x (evs x.1) l
        refine bsr_find hv hN f (i + 1) _ (by omega) (Nat.le_trans hlt hp.length_le) (bvis_ok (hv x.1 hx) h hg) fun z hz => ?_
        have e : (bvis nx ok x (evs x.1) l).take (i + 1) = l.take (i + 1) := by
          obtain ⟨r, hr⟩ := hp
          rw [← hr, List.take_append_of_le_length (by omega)]
        rw [e, htk, List.mem_append, List.mem_singleton] at hz
        rcases hz with hz | rfl
        · exact hb z hz
        · simpa using hbx
/-- The events that lead nowhere may be left out. -/
theorem bvis_filter {nx : S → Int → S} {ok : S → Bool} {x : S × List Int} : ∀ {es : List Int} {l : List (S × List Int)}, bvis nx ok x es l = bvis nx (fun _ => true) x (es.filter fun ev => ok (nx x.1 ev)) l
  | [], l => rfl
  | ev :: r, l => by
    rw [List.filter_cons]
    cases hc : ok (nx x.1 ev) with
    | true =>
      simp only [bvis, hc, if_true, true_and]
      exact bvis_filter
    | false =>
      simp only [bvis, hc, Bool.false_eq_true, false_and, if_false]
      exact bvis_filter
theorem bfull_filter {V : List S} {nx : S → Int → S} {ok : S → Bool} {evs evs' : S → List Int} (hv : ∀ x ∈ V, ∀ ev ∈ evs x, ok (nx x ev) = true → nx x ev ∈ V) (he : ∀ x ∈ V, evs' x = (evs x).filter fun ev => ok (nx x ev)) : ∀ (f i : Nat) (l : List (S × List Int)), bOk V l → bfull nx ok evs f i l = bfull nx (fun _ => true) evs' f i l
  | 0, _, l, h => rfl
  | f + 1, i, l, h => by
    simp only [bfull]
    cases hi : l[i]? with
    | none => rfl
    | some x =>
      have hx : x.1 ∈ V := h.el x (List.mem_of_getElem? hi)
      simp only
      rw [he x.1 hx, ← bvis_filter]
      exact bfull_filter hv he f (i + 1) _ (bvis_ok (hv x.1 hx) h hi)
end
section
variable {S : Type} [DecidableEq S]
theorem bvis_has {nx : S → Int → S} {ok : S → Bool} {x : S × List Int} : ∀ {es : List Int} {l : List (S × List Int)} {ev : Int}, ev ∈ es → ok (nx x.1 ev) = true → ∃ w ∈ bvis nx ok x es l, w.1 = nx x.1 ev
  | e :: r, l, ev, h, c => by
    rcases List.mem_cons.1 h with rfl | h
    · simp only [bvis]
      by_cases c2 : ∀ z ∈ l, z.1 ≠ nx x.1 ev
      · rw [if_pos ⟨c, c2⟩]
        exact ⟨(nx x.1 ev, x.2 ++ [ev]), (bvis_pre nx ok x r _).subset (by simp), rfl⟩
      · rw [if_neg (fun h => c2 h.2)]
        by_cases c3 : ∃ z ∈ l, z.1 = nx x.1 ev
        · obtain ⟨z, hz, e⟩ := c3
          exact ⟨z, (bvis_pre nx ok x r l).subset hz, e⟩
        · exact absurd (fun z hz e => c3 ⟨z, hz, e⟩) c2
    · simp only [bvis]
      exact bvis_has h c
end
/- Images. -/
section
variable {S T : Type} [DecidableEq S] [DecidableEq T]
def addF (acc : List (T × List Int)) (z : T × List Int) : List (T × List Int) := if ∀ y ∈ acc, y.1 ≠ z.1 then acc ++ [z] else acc
/-- The nodes' images, each where it comes first. -/
def img (h : S → Option T) (l : List (S × List Int)) : List (T × List Int) := l.foldl (fun acc z => match h z.1 with
  | none => acc
  | some y => addF acc (y, z.2)) []
theorem img_snoc (h : S → Option T) (l : List (S × List Int)) (z : S × List Int) : img h (l ++ [z]) = match h z.1 with
    | none => img h l
    | some y => addF (img h l) (y, z.2) := by
  unfold img
  rw [List.foldl_append]
  rfl
theorem addF_pre (acc : List (T × List Int)) (z : T × List Int) : acc <+: addF acc z := by
  unfold addF
  split
  · exact List.prefix_append _ _
  · exact List.prefix_refl _
theorem img_pre (h : S → Option T) : ∀ (m l : List (S × List Int)), img h l <+: img h (l ++ m)
  | [], l => by rw [List.append_nil]; exact List.prefix_refl _
  | z :: r, l => by
    have e : l ++ z :: r = (l ++ [z]) ++ r := by simp
    rw [e]
    refine List.IsPrefix.trans ?_ (img_pre h r (l ++ [z]))
    rw [img_snoc]
    split
    · exact List.prefix_refl _
    · exact addF_pre _ _
theorem addF_mem (acc : List (T × List Int)) (z : T × List Int) (y : T) : (∃ w ∈ addF acc z, w.1 = y) ↔ (∃ w ∈ acc, w.1 = y) ∨ z.1 = y := by
  unfold addF
  split
  · constructor
    · rintro ⟨w, hw, e⟩
      rcases List.mem_append.1 hw with hw | hw
      · exact .inl ⟨w, hw, e⟩
      · rw [List.mem_singleton] at hw; subst hw; exact .inr e
    · rintro (⟨w, hw, e⟩ | e)
      · exact ⟨w, by simp [hw], e⟩
      · exact ⟨z, by simp, e⟩
  · rename_i hn
    constructor
    · exact .inl
    · rintro (hw | e)
      · exact hw
      · by_cases c : ∃ q ∈ acc, q.1 = z.1
        · obtain ⟨q, hq, e2⟩ := c
          exact ⟨q, hq, e2.trans e⟩
        · exact absurd (fun q hq e => c ⟨q, hq, e⟩) hn
theorem img_memA (h : S → Option T) (y : T) : ∀ (l : List (S × List Int)) (acc : List (T × List Int)), (∃ w ∈ l.foldl (fun acc z => match h z.1 with
  | none => acc
  | some y => addF acc (y, z.2)) acc, w.1 = y) ↔ (∃ w ∈ acc, w.1 = y) ∨ ∃ z ∈ l, h z.1 = some y
  | [], acc => by simp
  | z :: r, acc => by
    rw [List.foldl_cons, img_memA h y r]
    cases hz : h z.1 with
    | none =>
      simp only
      constructor
      · rintro (hw | ⟨w, hw, e⟩)
        · exact .inl hw
        · exact .inr ⟨w, by simp [hw], e⟩
      · rintro (hw | ⟨w, hw, e⟩)
        · exact .inl hw
        · rcases List.mem_cons.1 hw with rfl | hw
          · rw [hz] at e; cases e
          · exact .inr ⟨w, hw, e⟩
    | some u =>
      simp only [addF_mem]
      constructor
      · rintro ((hw | e) | ⟨w, hw, e⟩)
        · exact .inl hw
        · exact .inr ⟨z, by simp, by rw [hz, e]⟩
        · exact .inr ⟨w, by simp [hw], e⟩
      · rintro (hw | ⟨w, hw, e⟩)
        · exact .inl (.inl hw)
        · rcases List.mem_cons.1 hw with rfl | hw
          · rw [hz] at e; exact .inl (.inr (Option.some.inj e))
          · exact .inr ⟨w, hw, e⟩
theorem img_mem (h : S → Option T) (l : List (S × List Int)) (y : T) : (∃ w ∈ img h l, w.1 = y) ↔ ∃ z ∈ l, h z.1 = some y := by
  unfold img
  rw [img_memA]
  simp
/-- The first node with a property of its image. -/
theorem addF_find (p : T → Bool) (acc : List (T × List Int)) (z : T × List Int) : (addF acc z).find? (fun w => p w.1) = (acc ++ [z]).find? (fun w => p w.1) := by
  unfold addF
  split
  · rfl
  · rename_i hn
    rw [List.find?_append]
    cases hf : acc.find? (fun w => p w.1) with
    | some w => rfl
    | none =>
      by_cases c : ∃ q ∈ acc, q.1 = z.1
      · obtain ⟨q, hq, e⟩ := c
        have := List.find?_eq_none.1 hf q hq
        rw [Option.none_or, List.find?_cons]
        have e2 : p z.1 = false := by rw [← e]; simpa using this
        rw [e2]; rfl
      · exact absurd (fun q hq e => c ⟨q, hq, e⟩) hn
def optB {T : Type} (p : T → Bool) : Option T → Bool
  | none => false
  | some y => p y
theorem img_findA (h : S → Option T) (p : T → Bool) : ∀ (l : List (S × List Int)) (acc : List (T × List Int)), (l.foldl (fun acc z => match h z.1 with
  | none => acc
  | some y => addF acc (y, z.2)) acc).find? (fun w => p w.1) = (acc.find? fun w => p w.1).or ((l.find? fun z => optB p (h z.1)).bind fun z => (h z.1).map fun y => (y, z.2))
  | [], acc => by simp
  | z :: r, acc => by
    rw [List.foldl_cons, img_findA h p r, List.find?_cons]
    cases hz : h z.1 with
    | none => simp only [hz, optB]
    | some u =>
      simp only [hz, optB, addF_find, List.find?_append, List.find?_cons]
      cases hp : p u with
      | true =>
        simp only [hz]
        cases acc.find? (fun w => p w.1) with
        | some w => rfl
        | none => simp [hz]
      | false =>
        simp only [List.find?_nil]
        cases acc.find? (fun w => p w.1) with
        | some w => rfl
        | none => rfl
theorem img_find (h : S → Option T) (p : T → Bool) (l : List (S × List Int)) : (img h l).find? (fun w => p w.1) = (l.find? fun z => optB p (h z.1)).bind fun z => (h z.1).map fun y => (y, z.2) := by
  unfold img
  rw [img_findA]
  rfl
/-- One node's visits, seen in the image. -/
theorem bvis_img {nx : S → Int → S} {ok : S → Bool} {nx' : T → Int → T} {ok' : T → Bool} {h : S → Option T} {x : S × List Int} {y : T} (hstep : ∀ ev, (if ok (nx x.1 ev) = true then h (nx x.1 ev) else none) = if ok' (nx' y ev) = true then some (nx' y ev) else none) :
    ∀ (es : List Int) (l : List (S × List Int)), img h (bvis nx ok x es l) = bvis nx' ok' (y, x.2) es (img h l)
  | [], l => rfl
  | ev :: r, l => by
    simp only [bvis]
    rw [bvis_img hstep r]
    congr 1
    have hs := hstep ev
    by_cases c : ok' (nx' y ev) = true
    · rw [if_pos c] at hs
      have c1 : ok (nx x.1 ev) = true := by
        by_cases c1 : ok (nx x.1 ev) = true
        · exact c1
        · rw [if_neg c1] at hs; cases hs
      rw [if_pos c1] at hs
      by_cases c2 : ∀ z ∈ l, z.1 ≠ nx x.1 ev
      · rw [if_pos ⟨c1, c2⟩, img_snoc]
        simp only [hs, addF]
        by_cases c3 : ∀ w ∈ img h l, w.1 ≠ nx' y ev
        · rw [if_pos c3, if_pos ⟨c, c3⟩]
        · rw [if_neg c3, if_neg (fun h => c3 h.2)]
      · rw [if_neg (fun h => c2 h.2)]
        rw [if_neg]
        rintro ⟨_, c3⟩
        apply c2
        intro z hz e
        obtain ⟨w, hw, e2⟩ := (img_mem h l (nx' y ev)).2 ⟨z, hz, by rw [e, hs]⟩
        exact c3 w hw e2
    · rw [if_neg c] at hs
      have rhs : (if ok' (nx' y ev) = true ∧ ∀ z ∈ img h l, z.1 ≠ nx' y ev then img h l ++ [(nx' y ev, x.2 ++ [ev])] else img h l) = img h l := if_neg (fun h => c h.1)
      rw [rhs]
      by_cases c2 : ok (nx x.1 ev) = true ∧ ∀ z ∈ l, z.1 ≠ nx x.1 ev
      · rw [if_pos c2]
        rw [if_pos c2.1] at hs
        rw [img_snoc]
        simp only [hs]
      · rw [if_neg c2]
/-- Visits that the image does not see. -/
theorem bvis_img0 {nx : S → Int → S} {ok : S → Bool} {h : S → Option T} {x : S × List Int} : ∀ (es : List Int) (l : List (S × List Int)), (∀ ev ∈ es, ok (nx x.1 ev) = true → ∀ u, h (nx x.1 ev) = some u → ∃ w ∈ img h l, w.1 = u) → img h (bvis nx ok x es l) = img h l
  | [], l, _ => rfl
  | ev :: r, l, hs => by
    simp only [bvis]
    have e : img h (if ok (nx x.1 ev) = true ∧ ∀ z ∈ l, z.1 ≠ nx x.1 ev then l ++ [(nx x.1 ev, x.2 ++ [ev])] else l) = img h l := by
      split
      · rename_i c
        rw [img_snoc]
        cases hu : h (nx x.1 ev) with
        | none => rfl
        | some u =>
          simp only [addF]
          rw [if_neg]
          intro hn
          obtain ⟨w, hw, e⟩ := hs ev (by simp) c.1 u hu
          exact hn w hw e
      · rfl
    rw [bvis_img0 r _ fun ev he c u hu => by rw [e]; exact hs ev (by simp [he]) c u hu, e]
/-- A SEARCH AND ITS IMAGE. -/
theorem bfull_img {V : List S} {nx : S → Int → S} {ok : S → Bool} {evs : S → List Int} {nx' : T → Int → T} {ok' : T → Bool} {evs' : T → List Int} {h : S → Option T}
    (hv : ∀ x ∈ V, ∀ ev ∈ evs x, ok (nx x ev) = true → nx x ev ∈ V)
    (h0 : ∀ x ∈ V, h x = none → ∀ ev, ok (nx x ev) = true → h (nx x ev) = none)
    (h1 : ∀ x ∈ V, ∀ y, h x = some y → evs x = evs' y ∧ ∀ ev, (if ok (nx x ev) = true then h (nx x ev) else none) = if ok' (nx' y ev) = true then some (nx' y ev) else none)
    {N : Nat} (hN : V.length < N) : ∀ (f i f' : Nat) (l : List (S × List Int)), f + i = N → i ≤ l.length → f ≤ f' → bOk V l →
    (∀ z ∈ l.take i, ∀ y, h z.1 = some y → ∀ ev ∈ evs' y, ok' (nx' y ev) = true → ∃ w ∈ img h l, w.1 = nx' y ev) →
    img h (bfull nx ok evs f i l) = bfull nx' ok' evs' f' (img h (l.take i)).length (img h l)
  | 0, i, f', l, hf, hi, _, hb, _ => by
    have := bOk_len hb
    omega
  | f + 1, i, f', l, hf, hi, hff, hb, hcl => by
    obtain ⟨f', rfl⟩ : ∃ k, f' = k + 1 := ⟨f' - 1, by omega⟩
    cases hg : l[i]? with
    | none =>
      have : l.length ≤ i := by
        rcases Nat.lt_or_ge i l.length with h1 | h1
        · rw [List.getElem?_eq_getElem h1] at hg; cases hg
        · exact h1
      rw [List.take_of_length_le this]
      simp only [bfull, hg, List.getElem?_eq_none (Nat.le_refl _)]
    | some x =>
      have hlt : i < l.length := (List.getElem?_eq_some_iff.1 hg).1
      have hx : x.1 ∈ V := hb.el x (List.mem_of_getElem? hg)
      have htk : l.take (i + 1) = l.take i ++ [x] := by rw [List.take_add_one, hg]; rfl
      have hp := bvis_pre nx ok x (evs x.1) l
      have hb2 := bvis_ok (hv x.1 hx) hb hg
      have e : (bvis nx ok x (evs x.1) l).take (i + 1) = l.take (i + 1) := by
        obtain ⟨r, hr⟩ := hp
        rw [← hr, List.take_append_of_le_length (by omega)]
      have hmono : ∀ u, (∃ w ∈ img h l, w.1 = u) → ∃ w ∈ img h (bvis nx ok x (evs x.1) l), w.1 = u := by
        rintro u ⟨w, hw, e⟩
        obtain ⟨r, hr⟩ := hp
        exact ⟨w, (by rw [← hr]; exact (img_pre h r l).subset hw), e⟩
      have lhs : bfull nx ok evs (f + 1) i l = bfull nx ok evs f (i + 1) (bvis nx ok x (evs x.1) l) := by simp only [bfull, hg]
      rw [lhs]
      have skip : img h (bvis nx ok x (evs x.1) l) = img h l → (∀ y, h x.1 = some y → ∀ ev ∈ evs' y, ok' (nx' y ev) = true → ∃ w ∈ img h l, w.1 = nx' y ev) → img h (l.take (i + 1)) = img h (l.take i) →
          img h (bfull nx ok evs f (i + 1) (bvis nx ok x (evs x.1) l)) = bfull nx' ok' evs' (f' + 1) (img h (l.take i)).length (img h l) := fun e1 e2 e3 => by
        have := bfull_img hv h0 h1 hN f (i + 1) (f' + 1) (bvis nx ok x (evs x.1) l) (by omega) (Nat.le_trans hlt hp.length_le) (by omega) hb2 (fun z hz y hy ev he c => by
          rw [e, htk, List.mem_append, List.mem_singleton] at hz
          rw [e1]
          rcases hz with hz | rfl
          · exact hcl z hz y hy ev he c
          · exact e2 y hy ev he c)
        rw [this, e, e3, e1]
      cases hh : h x.1 with
      | none =>
        refine skip ?_ (fun y hy => by rw [hh] at hy; cases hy) ?_
        · refine bvis_img0 _ _ fun ev _ c u hu => ?_
          rw [h0 x.1 hx hh ev c] at hu
          cases hu
        · rw [htk, img_snoc]; simp only [hh]
      | some y =>
        obtain ⟨he, hst⟩ := h1 x.1 hx y hh
        by_cases c : ∃ w ∈ img h (l.take i), w.1 = y
        · obtain ⟨z, hz, hzy⟩ := (img_mem h (l.take i) y).1 c
          have hz2 := hcl z hz y hzy
          refine skip ?_ (fun y' hy' => by rw [hh] at hy'; cases hy'; exact hz2) ?_
          · refine bvis_img0 _ _ fun ev hev c u hu => ?_
            have hs := hst ev
            rw [if_pos c, hu] at hs
            by_cases c' : ok' (nx' y ev) = true
            · rw [if_pos c'] at hs
              rw [Option.some.inj hs]
              exact hz2 ev (by rw [← he]; exact hev) c'
            · rw [if_neg c'] at hs; cases hs
          · rw [htk, img_snoc]
            simp only [hh, addF]
            rw [if_neg]
            intro hn
            obtain ⟨w, hw, e⟩ := c
            exact hn w hw e
        · have hnew : img h (l.take (i + 1)) = img h (l.take i) ++ [(y, x.2)] := by
            rw [htk, img_snoc]
            simp only [hh, addF]
            rw [if_pos fun w hw e => c ⟨w, hw, e⟩]
          have hget : (img h l)[(img h (l.take i)).length]? = some (y, x.2) := by
            obtain ⟨r, hr⟩ := img_pre h (l.drop (i + 1)) (l.take (i + 1))
            rw [List.take_append_drop] at hr
            rw [← hr, hnew, List.append_assoc, List.getElem?_append_right (Nat.le_refl _), Nat.sub_self]
            rfl
          have e1 : img h (bvis nx ok x (evs x.1) l) = bvis nx' ok' (y, x.2) (evs' y) (img h l) := by
            rw [bvis_img hst, he]
          have := bfull_img hv h0 h1 hN f (i + 1) f' (bvis nx ok x (evs x.1) l) (by omega) (Nat.le_trans hlt hp.length_le) (by omega) hb2 (fun z hz y' hy ev hev c' => by
            rw [e, htk, List.mem_append, List.mem_singleton] at hz
            rcases hz with hz | rfl
            · exact hmono _ (hcl z hz y' hy ev hev c')
            · rw [hh] at hy
              cases hy
              rw [e1]
              exact bvis_has hev c')
          rw [this, e, hnew, e1, List.length_append]
          simp only [bfull, hget, List.length_singleton]
end
end Go.AI


/- The law's own observer, consistent, both, extend. -/
namespace Go.AI
open Go.Proofs
set_option maxRecDepth 20000
theorem nxO_in {a : Aut} {n : Nat} (h : gAut a n) (on : List Int) : ∀ x ∈ statesV n, ∀ (evs : List Int), ∀ ev ∈ evs, okO (nxO a.edges on [] n x ev) = true → nxO a.edges on [] n x ev ∈ statesV n := fun x hx evs ev _ hok => by
  have h0 : 0 ≤ stp3 a.edges x.1 ev := of_decide_eq_true hok
  refine mem_statesV.2 ⟨?_, ?_⟩
  · rcases stp3_b (n := (n : Int)) (es := a.edges) (s := x.1) (ev := ev) h.to with h1 | h1
    · rw [h1] at h0; omega
    · exact h1
  · show (if ev ∈ on then nxt a.edges (lowP on [] false) n x.2 ev else x.2) ∈ subs n
    split
    · exact sorted_subs _ _
    · exact (mem_statesV.1 hx).2
theorem prs_bOk {a : Aut} {n : Nat} (h : gAut a n) (on : List Int) : bOk (statesV n) (prsR a on n) := by
  unfold prsR
  split
  · exact ⟨by simp, by simp, by simp⟩
  · rename_i hn0
    exact bfull_ok (fun x hx ev he => nxO_in h on x hx a.alpha ev he) _ _ _ (bOk_one (mem_statesV.2 ⟨by simp only; omega, sorted_subs _ _⟩))
def obL (a : Aut) (on : List Int) (n : Nat) : List (OS × List Int) → List Int × List Int × Bool
  | [] => ([], [], true)
  | z :: r => match misR a on n z.1.2 (clo a.edges (lowP on [] false) n [z.1.1]) with
    | some t => (z.2, t.2, false)
    | none => obL a on n r
set_option maxHeartbeats 8000000 in
theorem observer26 (O : List Heap) (a : Aut) (on : List Int) (n : Nat) (h : gAut a n) (hn : n ≤ 5) (hon : on.length ≤ max63) :
    ASpec Tryz.prog 26 [autD a, ints on] O (obD (obL a on n (prsR a on n))) [] O := by
  have hp := fun O => pairs66 O a on n h hn hon
  have hr := fun O s => reachS33 O a on s n h (by omega) hon
  have hm := fun O A B hA hB => missing69 O a on A B n h hn hon hA hB
  have hbk := prs_bOk h on
  have hll := bOk_len hbk
  have hVl := statesV_len hn
  have hel : ∀ z ∈ prsR a on n, z.1.2 ∈ subs n := fun z hz => (mem_statesV.1 (hbk.el z hz)).2
  have hrs : ∀ s : Int, clo a.edges (lowP on [] false) n [s] ∈ subs n := fun s => sorted_subs _ _
  generalize prsR a on n = l at *
  generalize hK : obL a on n l = KK
  refine aspec_intro Tk Tryz.func26 rfl Tryz.call26 Tryz.ntmps26 (Nat.le_of_ble_eq_true rfl) fun E => ?_
  refine g_run Tk Tryz.func26 ?_
  first | refine g_call Tk Tryz.func26 (hp _) rfl rfl rfl rfl rfl ?_ | refine s_callq Tk (fun _ => hp _) rfl rfl rfl ?_
  refine g_loop ?_
  refine rch_loop2 (fun i : Nat => [(1, ints on), (2, .own 0 2 0 0), (7, prsD l), (8, ii i)]) (fun _ => [(2, .box (autC a))]) (fun _ => O) 46
    (fun i => i ≤ l.length ∧ obL a on n (l.drop i) = KK) (fun i => l.length - i) 0 ⟨Nat.zero_le _, by simpa using hK⟩ ⟨rfl, rfl, rfl, rfl, trivial⟩ rfl ⟨rfl, trivial⟩ rfl rfl ?_
  clear hK
  rintro i ⟨hi, hno⟩ ih
  refine g_run Tk Tryz.func26 ?_
  first | refine g_cnd Tk Tryz.func26 rfl (fun g1 => ?_) (fun g1 => ?_) | refine g_know Tk Tryz.func26 rfl (fun g1 => ?_) (fun g1 => ?_) | refine s_know Tk (fun g1 => ?_) (fun g1 => ?_)
  · have h1 : i < l.length := by simpa using g1
    have gl : (l.map plI)[(i : Int).toNat]? = some (plI l[i]) := get_mapZ h1
    have hz := hel _ (List.getElem_mem h1)
    rw [List.drop_eq_getElem_cons h1] at hno
    simp only [obL] at hno
    generalize l[i] = z at *
    obtain ⟨⟨zs, ze⟩, zw⟩ := z
    simp only at hno hz
    have hr' := fun O => hr O zs
    have hm' := fun O => hm O ze _ hz (hrs zs)
    generalize clo a.edges (lowP on [] false) n [zs] = C at *
    generalize misR a on n ze C = t at *
    refine g_drawn Tk Tryz.func26 mixedT rfl ?_
    first | refine g_need Tk Tryz.func26 (by exact ⟨by omega, by show (i : Int) < (l.length : Int); omega⟩) ?_ | refine s_need Tk (by exact ⟨by omega, by show (i : Int) < (l.length : Int); omega⟩) ?_
    first | refine g_elem Tk Tryz.func26 (gl) ?_ | refine s_elem Tk (gl) ?_
    first | refine g_need Tk Tryz.func26 (by exact ⟨by omega, by show (i : Int) < (l.length : Int); omega⟩) ?_ | refine s_need Tk (by exact ⟨by omega, by show (i : Int) < (l.length : Int); omega⟩) ?_
    first | refine g_elem Tk Tryz.func26 (gl) ?_ | refine s_elem Tk (gl) ?_
    first | refine g_call Tk Tryz.func26 (hr' _) rfl rfl rfl rfl rfl ?_ | refine s_callq Tk (fun _ => hr' _) rfl rfl rfl ?_
    rcases t with _ | ⟨tz, tw⟩
    · have hm' : ∀ O, ASpec Tryz.prog 69 _ O (.tup [ints [], bb false]) [] O := hm'
      first | refine g_call Tk Tryz.func26 (hm' _) rfl rfl rfl rfl rfl ?_ | refine s_callq Tk (fun _ => hm' _) rfl rfl rfl ?_
      refine e_done Tk Tryz.func26 (by kernel_rfl) ?_
      repeat (first | refine gcT Tk Tryz.func26 rfl ?_ | refine gkT Tk Tryz.func26 rfl ?_ | refine skT Tk ?_ | refine gcF Tk Tryz.func26 rfl ?_ | refine gkF Tk Tryz.func26 rfl ?_ | refine skF Tk ?_)
      refine g_loop ?_
      exact ih (i + 1) _ _ ⟨h1, hno⟩ (by omega) ⟨rfl, rfl, rfl, congrArg ii (wsucc (n := 1000001) (by omega) (by decide)), trivial⟩ rfl ⟨rfl, trivial⟩ rfl rfl
    · have hm' : ∀ O, ASpec Tryz.prog 69 _ O (.tup [ints tw, bb true]) [] O := hm'
      simp only at hno
      subst hno
      first | refine g_call Tk Tryz.func26 (hm' _) rfl rfl rfl rfl rfl ?_ | refine s_callq Tk (fun _ => hm' _) rfl rfl rfl ?_
      refine e_done Tk Tryz.func26 (by kernel_rfl) ?_
      repeat (first | refine gcT Tk Tryz.func26 rfl ?_ | refine gkT Tk Tryz.func26 rfl ?_ | refine skT Tk ?_ | refine gcF Tk Tryz.func26 rfl ?_ | refine gkF Tk Tryz.func26 rfl ?_ | refine skF Tk ?_)
      first | refine g_need Tk Tryz.func26 (by exact ⟨by omega, by show (i : Int) < (l.length : Int); omega⟩) ?_ | refine s_need Tk (by exact ⟨by omega, by show (i : Int) < (l.length : Int); omega⟩) ?_
      first | refine g_elem Tk Tryz.func26 (gl) ?_ | refine s_elem Tk (gl) ?_
      refine g_ret Tk (r := .tup [ints zw, ints tw, bb false]) rfl rfl rfl trivial rfl rfl ?_
      rfl
  · have h1 : l.length ≤ i := by simpa using g1
    rw [List.drop_eq_nil_of_le h1] at hno
    have hno : (([], [], true) : List Int × List Int × Bool) = KK := hno
    subst hno
    refine g_ret_co Tk (r := .tup [.i (.v (.slice none 0 0)), .i (.v (.slice none 0 0)), bb true]) rfl rfl rfl trivial rfl rfl ?_
    repeat' (first | refine coD_tup ?_ | refine coD_agg ?_ | refine coD_i ?_ | refine CoDL.cons ?_ ?_ | exact CoDL.nil | exact coI_nil | refine coI_sl ?_ | refine CoLL.cons ?_ ?_ | exact CoLL.nil | refine CoL.cons ?_ ?_ | exact CoL.nil | exact CoI.refl _ | exact CoL.refl _ | exact CoLL.refl _ | exact CoDL.refl _ | exact CoD.refl _)
/-- The first event of a list that contradicts. -/
def csK (a : Aut) (on un : List Int) (n : Nat) (s : Int) : List Int → Option Int
  | [] => none
  | ev :: r => if ev ∈ un ∧ ctrR a on un n s ev = true then some ev else csK a on un n s r
def csL (a : Aut) (on un : List Int) (n : Nat) : List (OS × List Int) → List Int × Int × Bool
  | [] => ([], -1, true)
  | z :: r => match csK a on un n z.1.1 (keptR a on) with
    | some ev => (z.2, ev, false)
    | none => csL a on un n r
set_option maxHeartbeats 8000000 in
theorem consistent24 (O : List Heap) (a : Aut) (on un : List Int) (n : Nat) (h : gAut a n) (hn : n ≤ 5) (hon : on.length ≤ max63) (hun : un.length ≤ max63) :
    ASpec Tryz.prog 24 [autD a, ints on, ints un] O (.tup [ints (csL a on un n (prsR a on n)).1, ii (csL a on un n (prsR a on n)).2.1, bb (csL a on un n (prsR a on n)).2.2]) [] O := by
  have hp := fun O => pairs66 O a on n h hn hon
  have hkept : ∀ O, ASpec Tryz.prog 29 [autD a, ints on] O (ints (keptR a on)) [] O := fun O => kept29 O a on h.sm.al hon
  have hc := fun O s ev => contradicted35 O a on un s ev n h (by omega) hon hun
  have hhas := fun O x => has30 O un x hun
  have hbk := prs_bOk h on
  have hll := bOk_len hbk
  have hVl := statesV_len hn
  have hkr : (keptR a on).length ≤ 1000000 := Nat.le_trans (List.length_filter_le _ _) h.sm.al
  generalize prsR a on n = l at *
  generalize hK : csL a on un n l = KK
  have hck : ∀ z : OS × List Int, ∀ r, csL a on un n (z :: r) = match csK a on un n z.1.1 (keptR a on) with
    | some ev => (z.2, ev, false)
    | none => csL a on un n r := fun _ _ => rfl
  generalize keptR a on = kp at *
  refine aspec_intro Tk Tryz.func24 rfl Tryz.call24 Tryz.ntmps24 (Nat.le_of_ble_eq_true rfl) fun E => ?_
  refine g_run Tk Tryz.func24 ?_
  first | refine g_call Tk Tryz.func24 (hp _) rfl rfl rfl rfl rfl ?_ | refine s_callq Tk (fun _ => hp _) rfl rfl rfl ?_
  first | refine g_call Tk Tryz.func24 (hkept _) rfl rfl rfl rfl rfl ?_ | refine s_callq Tk (fun _ => hkept _) rfl rfl rfl ?_
  refine g_loop ?_
  refine rch_loop2 (fun i : Nat => [(1, ints on), (2, ints un), (3, .own 0 3 0 0), (9, prsD l), (10, ints kp), (11, ii i)]) (fun _ => [(3, .box (autC a))]) (fun _ => O) 61
    (fun i => i ≤ l.length ∧ csL a on un n (l.drop i) = KK) (fun i => l.length - i) 0 ⟨Nat.zero_le _, by simpa using hK⟩ ⟨rfl, rfl, rfl, rfl, rfl, rfl, trivial⟩ rfl ⟨rfl, trivial⟩ rfl rfl ?_
  clear hK
  rintro i ⟨hi, hno⟩ ih
  refine g_run Tk Tryz.func24 ?_
  first | refine g_cnd Tk Tryz.func24 rfl (fun g1 => ?_) (fun g1 => ?_) | refine g_know Tk Tryz.func24 rfl (fun g1 => ?_) (fun g1 => ?_) | refine s_know Tk (fun g1 => ?_) (fun g1 => ?_)
  · have h1 : i < l.length := by simpa using g1
    have gl : (l.map plI)[(i : Int).toNat]? = some (plI l[i]) := get_mapZ h1
    rw [List.drop_eq_getElem_cons h1, hck] at hno
    generalize l[i] = z at *
    obtain ⟨⟨zs, ze⟩, zw⟩ := z
    simp only at hno
    have hc' := fun O ev => hc O zs ev
    refine g_loop ?_
    refine rch_loop2 (fun j : Nat => [(1, ints on), (2, ints un), (3, .own 0 3 0 0), (9, prsD l), (10, ints kp), (11, ii i), (12, ii j)]) (fun _ => [(3, .box (autC a))]) (fun _ => O) 61
      (fun j => j ≤ kp.length ∧ (match csK a on un n zs (kp.drop j) with
        | some ev => (zw, ev, false)
        | none => csL a on un n (l.drop (i + 1))) = KK) (fun j => kp.length - j) 0 ⟨Nat.zero_le _, by simpa using hno⟩ ⟨rfl, rfl, rfl, rfl, rfl, rfl, rfl, trivial⟩ rfl ⟨rfl, trivial⟩ rfl rfl ?_
    clear hno
    rintro j ⟨hj, hno⟩ ih2
    have hj1 : ii (IntKind.i64.wrap ((j : Int) + 1)) = ii ((j + 1 : Nat) : Int) := congrArg ii (wsucc (n := 1000001) (by omega) (by decide))
    refine g_run Tk Tryz.func24 ?_
    first | refine g_cnd Tk Tryz.func24 rfl (fun g2 => ?_) (fun g2 => ?_) | refine g_know Tk Tryz.func24 rfl (fun g2 => ?_) (fun g2 => ?_) | refine s_know Tk (fun g2 => ?_) (fun g2 => ?_)
    · have h2 : j < kp.length := by simpa using g2
      have gk : (kp.map fun x => [vi x])[(j : Int).toNat]? = some [vi kp[j]] := get_mapZ (f := fun x => [vi x]) h2
      rw [List.drop_eq_getElem_cons h2] at hno
      simp only [csK] at hno
      generalize kp[j] = ev at *
      have hc'' := fun O => hc' O ev
      have hh := fun O => hhas O ev
      generalize ctrR a on un n zs ev = cb at *
      refine g_drawn Tk Tryz.func24 mixedT rfl ?_
      first | refine g_need Tk Tryz.func24 (by exact ⟨by omega, by show (j : Int) < (kp.length : Int); omega⟩) ?_ | refine s_need Tk (by exact ⟨by omega, by show (j : Int) < (kp.length : Int); omega⟩) ?_
      first | refine g_elem Tk Tryz.func24 (gk) ?_ | refine s_elem Tk (gk) ?_
      first | refine g_call Tk Tryz.func24 (hh _) rfl rfl rfl rfl rfl ?_ | refine s_callq Tk (fun _ => hh _) rfl rfl rfl ?_
      first | refine g_cnd Tk Tryz.func24 rfl (fun c1 => ?_) (fun c1 => ?_) | refine g_know Tk Tryz.func24 rfl (fun c1 => ?_) (fun c1 => ?_) | refine s_know Tk (fun c1 => ?_) (fun c1 => ?_)
      · have c1 : ev ∈ un := of_decide_eq_true c1
        first | refine g_need Tk Tryz.func24 (by exact ⟨by omega, by show (i : Int) < (l.length : Int); omega⟩) ?_ | refine s_need Tk (by exact ⟨by omega, by show (i : Int) < (l.length : Int); omega⟩) ?_
        first | refine g_elem Tk Tryz.func24 (gl) ?_ | refine s_elem Tk (gl) ?_
        first | refine g_need Tk Tryz.func24 (by exact ⟨by omega, by show (j : Int) < (kp.length : Int); omega⟩) ?_ | refine s_need Tk (by exact ⟨by omega, by show (j : Int) < (kp.length : Int); omega⟩) ?_
        first | refine g_elem Tk Tryz.func24 (gk) ?_ | refine s_elem Tk (gk) ?_
        first | refine g_call Tk Tryz.func24 (hc'' _) rfl rfl rfl rfl rfl ?_ | refine s_callq Tk (fun _ => hc'' _) rfl rfl rfl ?_
        refine e_done Tk Tryz.func24 (by kernel_rfl) ?_
        first | refine g_cnd Tk Tryz.func24 rfl (fun c2 => ?_) (fun c2 => ?_) | refine g_know Tk Tryz.func24 rfl (fun c2 => ?_) (fun c2 => ?_) | refine s_know Tk (fun c2 => ?_) (fun c2 => ?_)
        · have c2 : cb = true := c2
          rw [if_pos ⟨c1, c2⟩] at hno
          simp only at hno
          subst hno
          refine g_drawn Tk Tryz.func24 mixedT rfl ?_
          first | refine g_need Tk Tryz.func24 (by exact ⟨by omega, by show (i : Int) < (l.length : Int); omega⟩) ?_ | refine s_need Tk (by exact ⟨by omega, by show (i : Int) < (l.length : Int); omega⟩) ?_
          first | refine g_elem Tk Tryz.func24 (gl) ?_ | refine s_elem Tk (gl) ?_
          first | refine g_need Tk Tryz.func24 (by exact ⟨by omega, by show (j : Int) < (kp.length : Int); omega⟩) ?_ | refine s_need Tk (by exact ⟨by omega, by show (j : Int) < (kp.length : Int); omega⟩) ?_
          first | refine g_elem Tk Tryz.func24 (gk) ?_ | refine s_elem Tk (gk) ?_
          refine e_done Tk Tryz.func24 (by kernel_rfl) ?_
          refine g_ret Tk (r := .tup [ints zw, ii ev, bb false]) rfl rfl rfl trivial rfl rfl ?_
          rfl
        · have c2 : cb = false := c2
          rw [if_neg (fun h => by rw [c2] at h; exact absurd h.2 (by decide))] at hno
          refine g_loop ?_
          exact ih2 (j + 1) _ _ ⟨h2, hno⟩ (by omega) ⟨rfl, rfl, rfl, rfl, rfl, rfl, hj1, trivial⟩ rfl ⟨rfl, trivial⟩ rfl rfl
      · have c1 : ev ∉ un := of_decide_eq_false c1
        rw [if_neg (fun h => c1 h.1)] at hno
        refine e_done Tk Tryz.func24 (by kernel_rfl) ?_
        repeat (first | refine gcT Tk Tryz.func24 rfl ?_ | refine gkT Tk Tryz.func24 rfl ?_ | refine skT Tk ?_ | refine gcF Tk Tryz.func24 rfl ?_ | refine gkF Tk Tryz.func24 rfl ?_ | refine skF Tk ?_)
        refine g_loop ?_
        exact ih2 (j + 1) _ _ ⟨h2, hno⟩ (by omega) ⟨rfl, rfl, rfl, rfl, rfl, rfl, hj1, trivial⟩ rfl ⟨rfl, trivial⟩ rfl rfl
    · have h2 : kp.length ≤ j := by simpa using g2
      rw [List.drop_eq_nil_of_le h2] at hno
      have hno : csL a on un n (l.drop (i + 1)) = KK := hno
      refine g_loop ?_
      exact ih (i + 1) _ _ ⟨h1, hno⟩ (by omega) ⟨rfl, rfl, rfl, rfl, rfl, congrArg ii (wsucc (n := 1000001) (by omega) (by decide)), trivial⟩ rfl ⟨rfl, trivial⟩ rfl rfl
  · have h1 : l.length ≤ i := by simpa using g1
    rw [List.drop_eq_nil_of_le h1] at hno
    have hno : (([], -1, true) : List Int × Int × Bool) = KK := hno
    subst hno
    refine g_ret_co Tk (r := .tup [.i (.v (.slice none 0 0)), ii (-1), bb true]) rfl rfl rfl trivial rfl rfl ?_
    repeat' (first | refine coD_tup ?_ | refine coD_agg ?_ | refine coD_i ?_ | refine CoDL.cons ?_ ?_ | exact CoDL.nil | exact coI_nil | refine coI_sl ?_ | refine CoLL.cons ?_ ?_ | exact CoLL.nil | refine CoL.cons ?_ ?_ | exact CoL.nil | exact CoI.refl _ | exact CoL.refl _ | exact CoLL.refl _ | exact CoDL.refl _ | exact CoD.refl _)
def bothB (a : Aut) (on un : List Int) (n : Nat) : Bool := (obL a on n (prsR a on n)).2.2 && (csL a on un n (prsR a on n)).2.2
theorem both52 (O : List Heap) (a : Aut) (on un : List Int) (n : Nat) (h : gAut a n) (hn : n ≤ 5) (hon : on.length ≤ max63) (hun : un.length ≤ max63) :
    ASpec Tryz.prog 52 [autD a, ints on, ints un] O (bb (bothB a on un n)) [] O := by
  have h1 := fun O => observer26 O a on n h hn hon
  have h2 := fun O => consistent24 O a on un n h hn hon hun
  unfold bothB
  generalize obL a on n (prsR a on n) = x at *
  generalize csL a on un n (prsR a on n) = y at *
  obtain ⟨x1, x2, x3⟩ := x
  obtain ⟨y1, y2, y3⟩ := y
  clear h
  obtain ⟨al, st, mk, es⟩ := a
  refine aspec_intro Tk Tryz.func52 rfl Tryz.call52 Tryz.ntmps52 (Nat.le_of_ble_eq_true rfl) fun E => ?_
  refine g_run Tk Tryz.func52 ?_
  first | refine g_call Tk Tryz.func52 (h1 _) rfl rfl rfl rfl rfl ?_ | refine s_callq Tk (fun _ => h1 _) rfl rfl rfl ?_
  first | refine g_call Tk Tryz.func52 (h2 _) rfl rfl rfl rfl rfl ?_ | refine s_callq Tk (fun _ => h2 _) rfl rfl rfl ?_
  first | refine g_cnd Tk Tryz.func52 rfl (fun g1 => ?_) (fun g1 => ?_) | refine g_know Tk Tryz.func52 rfl (fun g1 => ?_) (fun g1 => ?_) | refine s_know Tk (fun g1 => ?_) (fun g1 => ?_)
  · have g1 : x3 = true := g1
    subst g1
    refine g_ret Tk (r := bb y3) rfl rfl rfl trivial rfl rfl ?_
    rfl
  · have g1 : x3 = false := g1
    subst g1
    refine g_ret Tk (r := bb false) rfl rfl rfl trivial rfl rfl ?_
    rfl
end Go.AI


/- Plain: sets that pass their check. -/
namespace Go.AI
open Go.Proofs
set_option maxRecDepth 20000
theorem checkSet_aux {n : Int} : ∀ {l : List Int} {y : Int}, checkSet n l (some y) = 0 → y + 1 ≤ n → (l.length : Int) ≤ n - 1 - y
  | [], y, _, h => by simp only [List.length_nil]; omega
  | x :: r, y, h, hy => by
    simp only [checkSet] at h
    by_cases h1 : x < 0 ∨ x ≥ n
    · rw [if_pos h1] at h; exact absurd h (by decide)
    rw [if_neg h1] at h
    by_cases h2 : (some y).any (x ≤ ·) = true
    · rw [if_pos h2] at h; exact absurd h (by decide)
    rw [if_neg h2] at h
    have hxy : y < x := by simpa using h2
    have := checkSet_aux h (by omega)
    simp only [List.length_cons]
    omega
theorem checkSet_len {n : Int} (hn : 0 ≤ n) : ∀ {l : List Int}, checkSet n l none = 0 → (l.length : Int) ≤ n
  | [], _ => by simpa using hn
  | x :: r, h => by
    simp only [checkSet] at h
    by_cases h1 : x < 0 ∨ x ≥ n
    · rw [if_pos h1] at h; exact absurd h (by decide)
    rw [if_neg h1] at h
    have h' : checkSet n r (some x) = 0 := by simpa using h
    have := checkSet_aux h' (by omega)
    simp only [List.length_cons]
    omega
theorem checkSet_of {n : Int} : ∀ {l : List Int} {p : Option Int}, l.Pairwise (· < ·) → (∀ x ∈ l, 0 ≤ x ∧ x < n) → (∀ y, p = some y → ∀ x ∈ l, y < x) → checkSet n l p = 0
  | [], _, _, _, _ => rfl
  | x :: r, p, hs, hr, hp => by
    simp only [checkSet]
    have h1 := hr x (by simp)
    rw [if_neg (by omega), if_neg]
    · rw [List.pairwise_cons] at hs
      refine checkSet_of hs.2 (fun y hy => hr y (by simp [hy])) (fun y e z hz => ?_)
      simp only [Option.some.injEq] at e
      subst e
      exact hs.1 z hz
    · cases p with
      | none => simp
      | some y =>
        have := hp y rfl x (by simp)
        simp only [Option.any_some, decide_eq_true_eq]
        omega
end Go.AI


/- overseerref03.Canonical. -/
namespace Go.AI
open Go.Proofs
set_option maxRecDepth 20000
abbrev zBox : Ob := .box [.i (.v (.slice none 0 0)), ii 0, .i (.v (.slice none 0 0)), .i (.v (.slice none 0 0))]
def cOf (es : List Edg) (F : List Int) (k : Nat) (s ev : Int) : Option Edg := if 0 ≤ stp3 es s ev then some ((k : Int), ev, idxI (stp3 es s ev) F 0) else none
def cMk (F marked : List Int) (i : Nat) : List Int := ((List.range i).filter fun k => match F[k]? with
  | none => false
  | some s => decide (s ∈ marked)).map fun (k : Nat) => (k : Int)
def cEd (es : List Edg) (F al : List Int) (i : Nat) : List Edg := (List.range i).flatMap fun k => match F[k]? with
  | none => []
  | some s => al.filterMap (cOf es F k s)
def canR (a : Aut) (F : List Int) : Aut := ⟨a.alpha, F.length, cMk F a.marked F.length, cEd a.edges F a.alpha F.length⟩
theorem cMk_succ {F marked : List Int} {i : Nat} {s : Int} (h : F[i]? = some s) : cMk F marked (i + 1) = cMk F marked i ++ (if s ∈ marked then [(i : Int)] else []) := by
  unfold cMk
  rw [List.range_succ, List.filter_append, List.map_append]
  congr 1
  simp only [List.filter_cons, List.filter_nil, h]
  by_cases hm : s ∈ marked <;> simp [hm]
theorem cEd_succ {es : List Edg} {F al : List Int} {i : Nat} {s : Int} (h : F[i]? = some s) : cEd es F al (i + 1) = cEd es F al i ++ al.filterMap (cOf es F i s) := by
  unfold cEd
  rw [List.range_succ, List.flatMap_append]
  simp only [List.flatMap_cons, List.flatMap_nil, List.append_nil, h]
theorem flat_lenN {α β : Type} {f : α → List β} {N : Nat} : ∀ {l : List α}, (∀ x ∈ l, (f x).length ≤ N) → (l.flatMap f).length ≤ N * l.length
  | [], _ => by simp
  | x :: r, h => by
    have h1 := h x (by simp)
    have h2 := flat_lenN (l := r) fun y hy => h y (by simp [hy])
    simp only [List.flatMap_cons, List.length_append, List.length_cons, Nat.mul_succ]
    omega
theorem cEd_len {es : List Edg} {F al : List Int} {i : Nat} (h : al.length ≤ 32) : (cEd es F al i).length ≤ 32 * i := by
  unfold cEd
  refine Nat.le_trans (flat_lenN (N := 32) fun k _ => ?_) (by rw [List.length_range]; exact Nat.le_refl _)
  split
  · simp
  · exact Nat.le_trans (List.length_filterMap_le _ _) h
theorem cMk_len {F marked : List Int} {i : Nat} : (cMk F marked i).length ≤ i := by
  unfold cMk
  rw [List.length_map]
  exact Nat.le_trans (List.length_filter_le _ _) (by simp)
set_option maxHeartbeats 4000000 in
theorem canonical58 (O : List Heap) (a : Aut) (ha : autOk a) (h1 : 1 ≤ a.states) (F : List Int) (hF : foundR a = F) (hFl : F.length ≤ 4096) : ASpec Tryz.prog 41 [autD a] O (autD (canR a F)) [] O := by
  obtain ⟨c1, c2, c3, c4⟩ := chk_parts ha.chk
  have hed := ha.ed
  have hmk := ha.mkd
  have hal := checkSet_len (by decide) c1
  have hal : a.alpha.length ≤ 32 := by omega
  have hst := fun O s ev => step121 O a s ev (by simp only [max63]; omega)
  have hfo := fun O => found119 O a ha h1
  rw [hF] at hfo
  have hem := fun O => empty120 O a.alpha (by omega)
  have hho := fun O x => has118 O a.marked x (by simp only [max63]; omega)
  have hix := fun O x => index122 O F x (by simp only [max63]; omega)
  have hR : canR a F = ⟨a.alpha, F.length, cMk F a.marked F.length, cEd a.edges F a.alpha F.length⟩ := rfl
  rw [hR]
  clear hR c1 c2 c3 c4 hF
  obtain ⟨al, n, mk, es⟩ := a
  simp only at *
  refine aspec_stop [9, 14] Tk Tryz.func41 rfl Tryz.call41 Tryz.ntmps41 (Nat.le_of_ble_eq_true rfl) fun E => ?_
  refine g_run Tk Tryz.func41 ?_
  first | refine g_call Tk Tryz.func41 (hfo _) rfl rfl rfl rfl rfl ?_ | refine s_callq Tk (fun _ => hfo _) rfl rfl rfl ?_
  first | refine g_call Tk Tryz.func41 (hem _) rfl rfl rfl rfl rfl ?_ | refine s_callq Tk (fun _ => hem _) rfl rfl rfl ?_
  refine g_loop ?_
  refine rch_wk (wk_nilbox2 4 33 3 1 (pre := [ints al, ii F.length]) (post := [.i (.v (.slice none 0 0))]) rfl rfl rfl) ?_
  refine rch_wk (wk_nilbox2 4 68 79 3 (pre := [ints al, ii F.length, .osl 0 33]) (post := []) rfl rfl rfl) ?_
  refine rch_loop2 (fun i : Nat => [(1, .own 0 1 0 0), (2, .own 0 2 0 0), (3, ints F), (4, .own 0 4 0 0), (5, ii i)]) (fun i => [(1, .box [ints al, ii n, ints mk, edgs es]), (2, zBox), (4, .box [ints al, ii F.length, .osl 0 33, .osl 0 68]), (33, oints (cMk F mk i)), (68, oedgs (cEd es F al i))]) (fun _ => O) 71
    (fun i => i ≤ F.length) (fun i => F.length - i) 0 (Nat.zero_le _) ⟨rfl, rfl, rfl, rfl, rfl, trivial⟩ rfl ⟨rfl, rfl, rfl, rfl, rfl, trivial⟩ rfl rfl ?_
  intro i hi ih
  refine g_run Tk Tryz.func41 ?_
  first | refine g_cnd Tk Tryz.func41 rfl (fun g1 => ?_) (fun g1 => ?_) | refine g_know Tk Tryz.func41 rfl (fun g1 => ?_) (fun g1 => ?_) | refine s_know Tk (fun g1 => ?_) (fun g1 => ?_)
  · have h2 : i < F.length := by simpa using g1
    clear g1
    have hs0 : F[i]? = some F[i] := List.getElem?_eq_getElem h2
    have gs : (F.map fun x => [vi x])[(i : Int).toNat]? = some [vi F[i]] := get_mapZ (f := fun x => [vi x]) h2
    generalize F[i] = s at *
    have hm3 := cMk_succ (marked := mk) hs0
    have hml := cMk_len (F := F) (marked := mk) (i := i)
    have n1 : 0 ≤ (i : Int) ∧ (i : Int) < (F.length : Int) := by omega
    have hh1 := fun O => hho O s
    refine g_drawn Tk Tryz.func41 mixedT rfl ?_
    first | refine g_need Tk Tryz.func41 (by exact n1) ?_ | refine s_need Tk (by exact n1) ?_
    first | refine g_elem Tk Tryz.func41 (gs) ?_ | refine s_elem Tk (gs) ?_
    first | refine g_call Tk Tryz.func41 (hh1 _) rfl rfl rfl rfl rfl ?_ | refine s_callq Tk (fun _ => hh1 _) rfl rfl rfl ?_
    refine e_done Tk Tryz.func41 (by kernel_rfl) ?_
    apply join_p (P := True) (s6 := { σ := [(1, .own 0 1 0 0), (2, .own 0 2 0 0), (3, ints F), (4, .own 0 4 0 0), (5, ii i)], S := [(1, .box [ints al, ii n, ints mk, edgs es]), (2, zBox), (4, .box [ints al, ii F.length, .osl 0 33, .osl 0 68]), (33, oints (cMk F mk (i + 1))), (68, oedgs (cEd es F al i))] :: O, n := 71 })
    · intro J
      first | refine g_cnd Tk Tryz.func41 rfl (fun d1 => ?_) (fun d1 => ?_) | refine g_know Tk Tryz.func41 rfl (fun d1 => ?_) (fun d1 => ?_) | refine s_know Tk (fun d1 => ?_) (fun d1 => ?_)
      · have d1 : s ∈ mk := of_decide_eq_true d1
        rw [if_pos d1] at hm3
        first | refine g_need Tk Tryz.func41 (by exact ⟨by show ((cMk F mk i).length + 1) * 8 ≤ 140737488355328; omega, by show (cMk F mk i).length + 1 ≤ 9223372036854775807; omega⟩) ?_ | refine s_need Tk (by exact ⟨by show ((cMk F mk i).length + 1) * 8 ≤ 140737488355328; omega, by show (cMk F mk i).length + 1 ≤ 9223372036854775807; omega⟩) ?_
        refine g_stop ?_
        refine rch_meet (J trivial) ⟨rfl, rfl, rfl, rfl, rfl, trivial⟩ rfl ⟨rfl, rfl, rfl, ?_, rfl, trivial⟩ rfl rfl
        rw [hm3]
        exact congrArg some (oints_app (cMk F mk i) (i : Int))
      · have d1 : s ∉ mk := of_decide_eq_false d1
        rw [if_neg d1, List.append_nil] at hm3
        refine g_stop ?_
        refine rch_meet (J trivial) ⟨rfl, rfl, rfl, rfl, rfl, trivial⟩ rfl ⟨rfl, rfl, rfl, by rw [hm3]; rfl, rfl, trivial⟩ rfl rfl
    · intro _
      clear hm3 hml hh1
      have hE := cEd_succ (es := es) (al := al) hs0
      have hEl := cEd_len (es := es) (F := F) (i := i) hal
      have hst1 := fun O ev => hst O s ev
      refine g_run Tk Tryz.func41 ?_
      refine g_go Tk Tryz.func41 ?_
      refine g_loop ?_
      refine rch_loop2 (fun j : Nat => [(1, .own 0 1 0 0), (2, .own 0 2 0 0), (3, ints F), (4, .own 0 4 0 0), (5, ii i), (6, ii j)]) (fun j => [(1, .box [ints al, ii n, ints mk, edgs es]), (2, zBox), (4, .box [ints al, ii F.length, .osl 0 33, .osl 0 68]), (33, oints (cMk F mk (i + 1))), (68, oedgs (cEd es F al i ++ (al.take j).filterMap (cOf es F i s)))]) (fun _ => O) 71
        (fun j => j ≤ al.length) (fun j => al.length - j) 0 (Nat.zero_le _) ⟨rfl, rfl, rfl, rfl, rfl, rfl, trivial⟩ rfl ⟨rfl, rfl, rfl, rfl, by show some (oedgs (cEd es F al i)) = some (oedgs (cEd es F al i ++ [])); rw [List.append_nil], trivial⟩ rfl rfl ?_
      intro j hj ih2
      refine g_run Tk Tryz.func41 ?_
      first | refine g_cnd Tk Tryz.func41 rfl (fun g2 => ?_) (fun g2 => ?_) | refine g_know Tk Tryz.func41 rfl (fun g2 => ?_) (fun g2 => ?_) | refine s_know Tk (fun g2 => ?_) (fun g2 => ?_)
      · have h3 : j < al.length := by simpa using g2
        clear g2
        have ga : (al.map fun x => [vi x])[(j : Int).toNat]? = some [vi al[j]] := get_mapZ (f := fun x => [vi x]) h3
        have htk : (al.take (j + 1)).filterMap (cOf es F i s) = (al.take j).filterMap (cOf es F i s) ++ [al[j]].filterMap (cOf es F i s) := by
          rw [List.take_succ_eq_append_getElem h3, List.filterMap_append]
        have hpl : ((al.take j).filterMap (cOf es F i s)).length ≤ 32 := Nat.le_trans (List.length_filterMap_le _ _) (by rw [List.length_take]; omega)
        have n2 : 0 ≤ (j : Int) ∧ (j : Int) < (al.length : Int) := by omega
        have hj1 : ii (IntKind.i64.wrap ((j : Int) + 1)) = ii ((j + 1 : Nat) : Int) := congrArg ii (wsucc (n := 1000001) (by omega) (by decide))
        generalize al[j] = ev at *
        have hst2 := fun O => hst1 O ev
        have hco : [ev].filterMap (cOf es F i s) = if 0 ≤ stp3 es s ev then [((i : Int), ev, idxI (stp3 es s ev) F 0)] else [] := by
          unfold cOf
          by_cases h : 0 ≤ stp3 es s ev <;> simp [h]
        rw [hco] at htk
        clear hco
        have hix1 := fun O => hix O (stp3 es s ev)
        generalize stp3 es s ev = t at *
        refine g_drawn Tk Tryz.func41 mixedT rfl ?_
        first | refine g_need Tk Tryz.func41 (by exact n1) ?_ | refine s_need Tk (by exact n1) ?_
        first | refine g_elem Tk Tryz.func41 (gs) ?_ | refine s_elem Tk (gs) ?_
        first | refine g_need Tk Tryz.func41 (by exact n2) ?_ | refine s_need Tk (by exact n2) ?_
        first | refine g_elem Tk Tryz.func41 (ga) ?_ | refine s_elem Tk (ga) ?_
        first | refine g_call Tk Tryz.func41 (hst2 _) rfl rfl rfl rfl rfl ?_ | refine s_callq Tk (fun _ => hst2 _) rfl rfl rfl ?_
        refine e_done Tk Tryz.func41 (by kernel_rfl) ?_
        first | refine g_cnd Tk Tryz.func41 rfl (fun d1 => ?_) (fun d1 => ?_) | refine g_know Tk Tryz.func41 rfl (fun d1 => ?_) (fun d1 => ?_) | refine s_know Tk (fun d1 => ?_) (fun d1 => ?_)
        · have d1 : t ≥ 0 := of_decide_eq_true d1
          rw [if_pos d1] at htk
          refine g_stop ?_
          refine g_run Tk Tryz.func41 ?_
          refine g_go Tk Tryz.func41 ?_
          refine g_drawn Tk Tryz.func41 mixedT rfl ?_
          first | refine g_need Tk Tryz.func41 (by exact n2) ?_ | refine s_need Tk (by exact n2) ?_
          first | refine g_elem Tk Tryz.func41 (ga) ?_ | refine s_elem Tk (ga) ?_
          first | refine g_call Tk Tryz.func41 (hix1 _) rfl rfl rfl rfl rfl ?_ | refine s_callq Tk (fun _ => hix1 _) rfl rfl rfl ?_
          refine e_tail Tk Tryz.func41 ([13, 14, 15]) (by kernel_rfl) (by kernel_rfl) ?_
          first | refine g_need Tk Tryz.func41 (by exact ⟨by show ((cEd es F al i ++ (al.take j).filterMap (cOf es F i s)).length + 1) * 24 ≤ 140737488355328; rw [List.length_append]; omega, by show (cEd es F al i ++ (al.take j).filterMap (cOf es F i s)).length + 1 ≤ 9223372036854775807; rw [List.length_append]; omega⟩) ?_ | refine s_need Tk (by exact ⟨by show ((cEd es F al i ++ (al.take j).filterMap (cOf es F i s)).length + 1) * 24 ≤ 140737488355328; rw [List.length_append]; omega, by show (cEd es F al i ++ (al.take j).filterMap (cOf es F i s)).length + 1 ≤ 9223372036854775807; rw [List.length_append]; omega⟩) ?_
          refine g_loop ?_
          refine ih2 (j + 1) _ _ h3 (by omega) ⟨rfl, rfl, rfl, rfl, rfl, hj1, trivial⟩ rfl ⟨rfl, rfl, rfl, rfl, ?_, trivial⟩ rfl rfl
          rw [htk, ← List.append_assoc]
          exact congrArg some (oedgs_app (cEd es F al i ++ (al.take j).filterMap (cOf es F i s)) ((i : Int), ev, idxI t F 0))
        · have d1 : ¬ t ≥ 0 := of_decide_eq_false d1
          rw [if_neg d1, List.append_nil] at htk
          refine g_loop ?_
          refine ih2 (j + 1) _ _ h3 (by omega) ⟨rfl, rfl, rfl, rfl, rfl, hj1, trivial⟩ rfl ⟨rfl, rfl, rfl, rfl, by rw [htk]; rfl, trivial⟩ rfl rfl
      · have h3 : al.length ≤ j := by simpa using g2
        refine g_loop ?_
        refine ih (i + 1) _ _ h2 (by omega) ⟨rfl, rfl, rfl, rfl, congrArg ii (wsucc (n := 5000) (by omega) (by decide)), trivial⟩ rfl ⟨rfl, rfl, rfl, rfl, ?_, trivial⟩ rfl rfl
        show some (oedgs (cEd es F al i ++ (al.take j).filterMap (cOf es F i s))) = _
        rw [List.take_of_length_le h3, hE]
  · have h2 : F.length ≤ i := by simpa using g1
    obtain rfl : i = F.length := by omega
    refine g_rwk (wk_freeze 33 rfl rfl) ?_
    refine g_rwk (wk_freeze 68 rfl rfl) ?_
    refine g_rwk (wk_imm rfl) ?_
    refine g_ret Tk (r := autD ⟨al, F.length, cMk F mk F.length, cEd es F al F.length⟩) rfl rfl rfl trivial rfl rfl ?_
    rfl
end Go.AI


/- overseerlaw03: Events and Make. -/
namespace Go.AI
open Go.Proofs
set_option maxRecDepth 20000
abbrev u8D (x : Int) : D := .i (.v (.int .u8 x))
abbrev grC (gs gm : Int) (gt : Nat → Int) : List D := [u8D gs, u8D gm, u8D (gt 0), u8D (gt 1), u8D (gt 2), u8D (gt 3), u8D (gt 4), u8D (gt 5), u8D (gt 6), u8D (gt 7), u8D (gt 8), u8D (gt 9), u8D (gt 10), u8D (gt 11), u8D (gt 12), u8D (gt 13), u8D (gt 14), u8D (gt 15), u8D (gt 16), u8D (gt 17), u8D (gt 18), u8D (gt 19), u8D (gt 20), u8D (gt 21), u8D (gt 22), u8D (gt 23), u8D (gt 24)]
def bitP (b : Int) (i : Nat) : Bool := bits BinOp.and IntKind.u8 (b / 2 ^ Int.toNat (i : Int)) 1 == 1
def rawM (b : Int) (n : Nat) : List Int := ((List.range n).filter fun i => bitP b i).map fun (i : Nat) => (i : Int)
theorem rawM_succ (b : Int) (n : Nat) : rawM b (n + 1) = rawM b n ++ if bitP b n = true then [(n : Int)] else [] := by
  unfold rawM
  rw [List.range_succ, List.filter_append, List.map_append]
  congr 1
  by_cases h : bitP b n = true <;> simp [h]
theorem rawM_len (b : Int) (n : Nat) : (rawM b n).length ≤ n := by
  unfold rawM
  rw [List.length_map]
  exact Nat.le_trans (List.length_filter_le _ _) (by simp)
abbrev evsOf (b : Int) : List Int := rawM b 5
theorem events13 (O : List Heap) (b : Int) : ASpec Tryz.prog 13 [u8D b] O (ints (evsOf b)) [] O := by
  refine aspec_stop [7] Tk Tryz.func13 rfl Tryz.call13 Tryz.ntmps13 (Nat.le_of_ble_eq_true rfl) fun E => ?_
  refine g_run Tk Tryz.func13 ?_
  refine g_loop ?_
  refine rch_wk (wk_nil 3 17 3 1 rfl rfl rfl) ?_
  refine rch_loop2 (fun i : Nat => [(0, u8D b), (3, .osl 0 17), (4, ii i)]) (fun i => [(17, oints (rawM b i))]) (fun _ => O) 19
    (fun i => i ≤ 5) (fun i => 5 - i) 0 (Nat.zero_le _) ⟨rfl, rfl, rfl, trivial⟩ rfl ⟨rfl, trivial⟩ rfl rfl ?_
  intro i hi ih
  have hj1 : ii (IntKind.i64.wrap ((i : Int) + 1)) = ii ((i + 1 : Nat) : Int) := congrArg ii (wsucc (n := 1000001) (by omega) (by decide))
  have hs := rawM_succ b i
  have hl := rawM_len b i
  refine g_run Tk Tryz.func13 ?_
  first | refine g_cnd Tk Tryz.func13 rfl (fun g1 => ?_) (fun g1 => ?_) | refine g_know Tk Tryz.func13 rfl (fun g1 => ?_) (fun g1 => ?_) | refine s_know Tk (fun g1 => ?_) (fun g1 => ?_)
  · have g1 : (i : Int) < 5 := of_decide_eq_true g1
    first | refine g_need Tk Tryz.func13 (by exact ⟨by omega, by show (i : Int) ≤ (8 : Nat); omega⟩) ?_ | refine s_need Tk (by exact ⟨by omega, by show (i : Int) ≤ (8 : Nat); omega⟩) ?_
    first | refine g_cnd Tk Tryz.func13 rfl (fun g2 => ?_) (fun g2 => ?_) | refine g_know Tk Tryz.func13 rfl (fun g2 => ?_) (fun g2 => ?_) | refine s_know Tk (fun g2 => ?_) (fun g2 => ?_)
    · have g2 : bitP b i = true := g2
      rw [if_pos g2] at hs
      first | refine g_need Tk Tryz.func13 (by exact ⟨by show ((rawM b i).length + 1) * 8 ≤ 140737488355328; omega, by show (rawM b i).length + 1 ≤ 9223372036854775807; omega⟩) ?_ | refine s_need Tk (by exact ⟨by show ((rawM b i).length + 1) * 8 ≤ 140737488355328; omega, by show (rawM b i).length + 1 ≤ 9223372036854775807; omega⟩) ?_
      refine g_loop ?_
      refine ih (i + 1) _ _ (by omega) (by omega) ⟨rfl, rfl, hj1, trivial⟩ rfl ⟨?_, trivial⟩ rfl rfl
      rw [hs]
      exact congrArg some (oints_app (rawM b i) (i : Int))
    · have g2 : ¬ bitP b i = true := by intro h; exact absurd (g2.symm.trans h) (by decide)
      rw [if_neg g2, List.append_nil] at hs
      refine g_loop ?_
      exact ih (i + 1) _ _ (by omega) (by omega) ⟨rfl, rfl, hj1, trivial⟩ rfl ⟨by rw [hs]; rfl, trivial⟩ rfl rfl
  · have g1 : ¬ (i : Int) < 5 := of_decide_eq_false g1
    obtain rfl : i = 5 := by omega
    refine g_stop ?_
    refine rch_wk (wk_freeze 17 rfl rfl) ?_
    refine g_run Tk Tryz.func13 ?_
    refine g_go Tk Tryz.func13 ?_
    refine g_ret Tk (r := ints (evsOf b)) rfl rfl rfl trivial rfl rfl ?_
    rfl
def tgtV (x : Int) (n : Nat) : Int := (IntKind.i64.wrap x).tmod (IntKind.i64.wrap ((n : Int) + 2))
def rowE (gt : Nat → Int) (n i : Nat) (s : List Int) (k : Nat) : List Edg := (List.range k).filterMap fun k => match s[k]? with
  | some ev => if tgtV (gt (5 * i + k)) n < n then some ((i : Int), ev, tgtV (gt (5 * i + k)) n) else none
  | none => none
theorem rowE_succ {gt : Nat → Int} {n i : Nat} {s : List Int} {k : Nat} {ev : Int} (h : s[k]? = some ev) : rowE gt n i s (k + 1) = rowE gt n i s k ++ if tgtV (gt (5 * i + k)) n < n then [((i : Int), ev, tgtV (gt (5 * i + k)) n)] else [] := by
  unfold rowE
  rw [List.range_succ, List.filterMap_append]
  congr 1
  by_cases c : tgtV (gt (5 * i + k)) n < n <;> simp [h, c]
theorem rowE_len (gt : Nat → Int) (n i : Nat) (s : List Int) (k : Nat) : (rowE gt n i s k).length ≤ k := Nat.le_trans (List.length_filterMap_le _ _) (by simp)
def rawE (gt : Nat → Int) (n : Nat) (s : List Int) (i : Nat) : List Edg := (List.range i).flatMap fun i => rowE gt n i s s.length
theorem rawE_succ (gt : Nat → Int) (n : Nat) (s : List Int) (i : Nat) : rawE gt n s (i + 1) = rawE gt n s i ++ rowE gt n i s s.length := by
  unfold rawE
  rw [List.range_succ, List.flatMap_append]
  simp
theorem rawE_len (gt : Nat → Int) (n : Nat) (s : List Int) : ∀ i, (rawE gt n s i).length ≤ s.length * i
  | 0 => by simp [rawE]
  | i + 1 => by
    have := rawE_len gt n s i
    have := rowE_len gt n i s s.length
    rw [rawE_succ, List.length_append, Nat.mul_add, Nat.mul_one]
    omega
def rawN (gs : Int) : Nat := 1 + (gs % 5).toNat
def rawA (s : List Int) (gs gm : Int) (gt : Nat → Int) : Aut := ⟨s, rawN gs, rawM gm (rawN gs), rawE gt (rawN gs) s (rawN gs)⟩
def mkA (s : List Int) (gs gm : Int) (gt : Nat → Int) : Aut := if gs ≥ 250 then ⟨s, 0, [], []⟩ else canR (rawA s gs gm gt) (foundR (rawA s gs gm gt))
set_option maxHeartbeats 16000000 in
theorem make12 (O : List Heap) (s : List Int) (gs gm : Int) (gt : Nat → Int) (hsl : s.length ≤ 5) (hg0 : 0 ≤ gs) (hok : autOk (rawA s gs gm gt)) (hF : (foundR (rawA s gs gm gt)).length ≤ 4096) :
    ASpec Tryz.prog 12 [ints s, .agg (grC gs gm gt)] O (autD (mkA s gs gm gt)) [] O := by
  have hem := fun O => empty120 O s (by omega)
  have hcan := fun O => canonical58 O (rawA s gs gm gt) hok (by show (1 : Int) ≤ ((rawN gs : Nat) : Int); unfold rawN; omega) _ rfl hF
  have hn : IntKind.i64.wrap (1 + IntKind.i64.wrap (gs.tmod 5)) = ((rawN gs : Nat) : Int) := by
    rw [Int.tmod_eq_emod_of_nonneg hg0]
    have h1 : 0 ≤ gs % 5 ∧ gs % 5 < 5 := ⟨Int.emod_nonneg _ (by decide), Int.emod_lt_of_pos _ (by decide)⟩
    have w1 : IntKind.i64.wrap (gs % 5) = gs % 5 := w64 (by omega) (by omega)
    rw [w1, w64 (by omega) (by omega)]
    unfold rawN
    omega
  have hn5 : rawN gs ≤ 5 := by
    have h1 : 0 ≤ gs % 5 ∧ gs % 5 < 5 := ⟨Int.emod_nonneg _ (by decide), Int.emod_lt_of_pos _ (by decide)⟩
    unfold rawN
    omega
  unfold mkA
  refine aspec_stop [10, 13, 14, 16] Tk Tryz.func12 rfl Tryz.call12 Tryz.ntmps12 (Nat.le_of_ble_eq_true rfl) fun E => ?_
  refine g_run Tk Tryz.func12 ?_
  first | refine g_cnd Tk Tryz.func12 rfl (fun c1 => ?_) (fun c1 => ?_) | refine g_know Tk Tryz.func12 rfl (fun c1 => ?_) (fun c1 => ?_) | refine s_know Tk (fun c1 => ?_) (fun c1 => ?_)
  · rw [if_pos (of_decide_eq_true c1)]
    first | refine g_call Tk Tryz.func12 (hem _) rfl rfl rfl rfl rfl ?_ | refine s_callq Tk (fun _ => hem _) rfl rfl rfl ?_
    refine g_ret_co Tk (r := .agg [ints s, ii 0, .i (.v (.slice none 0 0)), .i (.v (.slice none 0 0))]) rfl rfl rfl trivial rfl rfl ?_
    repeat' (first | refine coD_tup ?_ | refine coD_agg ?_ | refine coD_i ?_ | refine CoDL.cons ?_ ?_ | exact CoDL.nil | exact coI_nil | refine coI_sl ?_ | refine CoLL.cons ?_ ?_ | exact CoLL.nil | refine CoL.cons ?_ ?_ | exact CoL.nil | exact CoI.refl _ | exact CoL.refl _ | exact CoLL.refl _ | exact CoDL.refl _ | exact CoD.refl _)
  rw [if_neg (of_decide_eq_false c1)]
  clear c1
  generalize canR (rawA s gs gm gt) (foundR (rawA s gs gm gt)) = R at *
  have hcan : ∀ O, ASpec Tryz.prog 41 [.agg [ints s, ii (rawN gs), ints (rawM gm (rawN gs)), edgs (rawE gt (rawN gs) s (rawN gs))]] O (autD R) [] O := hcan
  generalize rawN gs = n at *
  first | refine g_call Tk Tryz.func12 (hem _) rfl rfl rfl rfl rfl ?_ | refine s_callq Tk (fun _ => hem _) rfl rfl rfl ?_
  first | refine g_need Tk Tryz.func12 (by decide) ?_ | refine s_need Tk (by decide) ?_
  refine g_loop ?_
  refine rch_wk (wk_nilbox2 5 38 3 1 (pre := [ints s, ii _]) (post := [.i (.v (.slice none 0 0))]) rfl rfl rfl) ?_
  refine rch_wk (wk_nilbox2 5 75 79 3 (pre := [ints s, ii _, .osl 0 38]) (post := []) rfl rfl rfl) ?_
  refine rch_loop2 (fun i : Nat => [(0, ints s), (3, .own 0 3 0 0), (4, .own 0 4 0 0), (5, .own 0 5 0 0), (6, ii i)]) (fun i => [(3, .box (grC gs gm gt)), (4, zBox), (5, .box [ints s, ii n, .osl 0 38, .osl 0 75]), (38, oints (rawM gm i)), (75, oedgs (rawE gt n s i))]) (fun _ => O) 79
    (fun i => i ≤ n) (fun i => n - i) 0 (Nat.zero_le _) ⟨rfl, rfl, rfl, rfl, rfl, trivial⟩ rfl ⟨rfl, rfl, congrArg (fun z => some (Ob.box [ints s, ii z, .osl 0 38, .osl 0 75])) hn, rfl, rfl, trivial⟩ rfl rfl ?_
  intro i hi ih
  have hi1 : ii (IntKind.i64.wrap ((i : Int) + 1)) = ii ((i + 1 : Nat) : Int) := congrArg ii (wsucc (n := 1000001) (by omega) (by decide))
  refine g_run Tk Tryz.func12 ?_
  first | refine g_cnd Tk Tryz.func12 rfl (fun g1 => ?_) (fun g1 => ?_) | refine g_know Tk Tryz.func12 rfl (fun g1 => ?_) (fun g1 => ?_) | refine s_know Tk (fun g1 => ?_) (fun g1 => ?_)
  · have h2 : i < n := by simpa using g1
    clear g1
    have hm3 := rawM_succ gm i
    have hml := rawM_len gm i
    first | refine g_need Tk Tryz.func12 (by exact ⟨by omega, by show (i : Int) ≤ (8 : Nat); omega⟩) ?_ | refine s_need Tk (by exact ⟨by omega, by show (i : Int) ≤ (8 : Nat); omega⟩) ?_
    apply join_p (P := True) (s6 := { σ := [(0, ints s), (3, .own 0 3 0 0), (4, .own 0 4 0 0), (5, .own 0 5 0 0), (6, ii i)], S := [(3, .box (grC gs gm gt)), (4, zBox), (5, .box [ints s, ii n, .osl 0 38, .osl 0 75]), (38, oints (rawM gm (i + 1))), (75, oedgs (rawE gt n s i))] :: O, n := 79 })
    · intro J
      first | refine g_cnd Tk Tryz.func12 rfl (fun d1 => ?_) (fun d1 => ?_) | refine g_know Tk Tryz.func12 rfl (fun d1 => ?_) (fun d1 => ?_) | refine s_know Tk (fun d1 => ?_) (fun d1 => ?_)
      · have d1 : bitP gm i = true := d1
        rw [if_pos d1] at hm3
        first | refine g_need Tk Tryz.func12 (by exact ⟨by show ((rawM gm i).length + 1) * 8 ≤ 140737488355328; omega, by show (rawM gm i).length + 1 ≤ 9223372036854775807; omega⟩) ?_ | refine s_need Tk (by exact ⟨by show ((rawM gm i).length + 1) * 8 ≤ 140737488355328; omega, by show (rawM gm i).length + 1 ≤ 9223372036854775807; omega⟩) ?_
        refine g_stop ?_
        refine rch_meet (J trivial) ⟨rfl, rfl, rfl, rfl, rfl, trivial⟩ rfl ⟨rfl, rfl, rfl, ?_, rfl, trivial⟩ rfl rfl
        rw [hm3]
        exact congrArg some (oints_app (rawM gm i) (i : Int))
      · have d1 : ¬ bitP gm i = true := by intro h; exact absurd (d1.symm.trans h) (by decide)
        rw [if_neg d1, List.append_nil] at hm3
        refine g_stop ?_
        refine rch_meet (J trivial) ⟨rfl, rfl, rfl, rfl, rfl, trivial⟩ rfl ⟨rfl, rfl, rfl, by rw [hm3]; rfl, rfl, trivial⟩ rfl rfl
    intro _
    clear hm3 hml
    have hE := rawE_succ gt n s i
    have hEl := rawE_len gt n s i
    have hEl2 : s.length * i ≤ 5 * 5 := Nat.mul_le_mul hsl (by omega)
    refine g_run Tk Tryz.func12 ?_
    refine g_go Tk Tryz.func12 ?_
    refine g_loop ?_
    refine rch_loop2 (fun k : Nat => [(0, ints s), (3, .own 0 3 0 0), (4, .own 0 4 0 0), (5, .own 0 5 0 0), (6, ii i), (7, ii k)]) (fun k => [(3, .box (grC gs gm gt)), (4, zBox), (5, .box [ints s, ii n, .osl 0 38, .osl 0 75]), (38, oints (rawM gm (i + 1))), (75, oedgs (rawE gt n s i ++ rowE gt n i s k))]) (fun _ => O) 79
      (fun k => k ≤ s.length) (fun k => s.length - k) 0 (Nat.zero_le _) ⟨rfl, rfl, rfl, rfl, rfl, rfl, trivial⟩ rfl ⟨rfl, rfl, rfl, rfl, by show some (oedgs (rawE gt n s i)) = some (oedgs (rawE gt n s i ++ [])); rw [List.append_nil], trivial⟩ rfl rfl ?_
    intro k hk ih2
    refine g_run Tk Tryz.func12 ?_
    first | refine g_cnd Tk Tryz.func12 rfl (fun g2 => ?_) (fun g2 => ?_) | refine g_know Tk Tryz.func12 rfl (fun g2 => ?_) (fun g2 => ?_) | refine s_know Tk (fun g2 => ?_) (fun g2 => ?_)
    · have h3 : k < s.length := by simpa using g2
      clear g2
      first | refine g_cnd Tk Tryz.func12 rfl (fun g3 => ?_) (fun g3 => ?_) | refine g_know Tk Tryz.func12 rfl (fun g3 => ?_) (fun g3 => ?_) | refine s_know Tk (fun g3 => ?_) (fun g3 => ?_)
      rotate_left
      · have g3 : ¬ (k : Int) < 5 := of_decide_eq_false g3
        omega
      clear g3
      have ga : (s.map fun x => [vi x])[(k : Int).toNat]? = some [vi s[k]] := get_mapZ (f := fun x => [vi x]) h3
      have htk := rowE_succ (gt := gt) (n := n) (i := i) (List.getElem?_eq_getElem h3)
      have hpl := rowE_len gt n i s k
      have n2 : 0 ≤ (k : Int) ∧ (k : Int) < (s.length : Int) := by omega
      have hj1 : ii (IntKind.i64.wrap ((k : Int) + 1)) = ii ((k + 1 : Nat) : Int) := congrArg ii (wsucc (n := 1000001) (by omega) (by decide))
      generalize s[k] = ev at *
      have hnz : IntKind.i64.wrap ((n : Int) + 2) ≠ 0 := by rw [w64 (by omega) (by omega)]; omega
      apply join_p (P := True) (s6 := { σ := [(0, ints s), (3, .own 0 3 0 0), (4, .own 0 4 0 0), (5, .own 0 5 0 0), (6, ii i), (7, ii k), (8, ii (tgtV (gt (5 * i + k)) n))], S := [(3, .box (grC gs gm gt)), (4, zBox), (5, .box [ints s, ii n, .osl 0 38, .osl 0 75]), (38, oints (rawM gm (i + 1))), (75, oedgs (rawE gt n s i ++ rowE gt n i s k))] :: O, n := 79 })
      · intro J
        have hi5 : i = 0 ∨ i = 1 ∨ i = 2 ∨ i = 3 ∨ i = 4 := by omega
        have hk5 : k = 0 ∨ k = 1 ∨ k = 2 ∨ k = 3 ∨ k = 4 := by omega
        rcases hi5 with rfl | rfl | rfl | rfl | rfl <;> rcases hk5 with rfl | rfl | rfl | rfl | rfl <;>
          (refine g_go Tk Tryz.func12 ?_
           refine g_drawn Tk Tryz.func12 mixedT rfl ?_
           refine s_need Tk (by decide) ?_
           refine s_need Tk (by decide) ?_
           refine s_need Tk hnz ?_
           refine e_done Tk Tryz.func12 (by kernel_rfl) ?_
           refine g_stop ?_
           exact rch_meet (J trivial) ⟨rfl, rfl, rfl, rfl, rfl, rfl, rfl, trivial⟩ rfl ⟨rfl, rfl, rfl, rfl, rfl, trivial⟩ rfl rfl)
      intro _
      refine g_run Tk Tryz.func12 ?_
      refine g_go Tk Tryz.func12 ?_
      first | refine g_cnd Tk Tryz.func12 rfl (fun d1 => ?_) (fun d1 => ?_) | refine g_know Tk Tryz.func12 rfl (fun d1 => ?_) (fun d1 => ?_) | refine s_know Tk (fun d1 => ?_) (fun d1 => ?_)
      · have d1 : tgtV (gt (5 * i + k)) n < n := of_decide_eq_true d1
        rw [if_pos d1] at htk
        refine g_drawn Tk Tryz.func12 mixedT rfl ?_
        first | refine g_need Tk Tryz.func12 (by exact n2) ?_ | refine s_need Tk (by exact n2) ?_
        first | refine g_elem Tk Tryz.func12 (ga) ?_ | refine s_elem Tk (ga) ?_
        refine e_tail Tk Tryz.func12 ([10, 11, 12]) (by kernel_rfl) (by kernel_rfl) ?_
        first | refine g_need Tk Tryz.func12 (by exact ⟨by show ((rawE gt n s i ++ rowE gt n i s k).length + 1) * 24 ≤ 140737488355328; rw [List.length_append]; omega, by show (rawE gt n s i ++ rowE gt n i s k).length + 1 ≤ 9223372036854775807; rw [List.length_append]; omega⟩) ?_ | refine s_need Tk (by exact ⟨by show ((rawE gt n s i ++ rowE gt n i s k).length + 1) * 24 ≤ 140737488355328; rw [List.length_append]; omega, by show (rawE gt n s i ++ rowE gt n i s k).length + 1 ≤ 9223372036854775807; rw [List.length_append]; omega⟩) ?_
        refine g_loop ?_
        refine ih2 (k + 1) _ _ h3 (by omega) ⟨rfl, rfl, rfl, rfl, rfl, hj1, trivial⟩ rfl ⟨rfl, rfl, rfl, rfl, ?_, trivial⟩ rfl rfl
        rw [htk, ← List.append_assoc]
        exact congrArg some (oedgs_app (rawE gt n s i ++ rowE gt n i s k) ((i : Int), ev, tgtV (gt (5 * i + k)) n))
      · have d1 : ¬ tgtV (gt (5 * i + k)) n < n := of_decide_eq_false d1
        rw [if_neg d1, List.append_nil] at htk
        refine g_loop ?_
        exact ih2 (k + 1) _ _ h3 (by omega) ⟨rfl, rfl, rfl, rfl, rfl, hj1, trivial⟩ rfl ⟨rfl, rfl, rfl, rfl, by rw [htk]; rfl, trivial⟩ rfl rfl
    · have h3 : s.length ≤ k := by simpa using g2
      have hk2 : k = s.length := by omega
      repeat (first | refine gcT Tk Tryz.func12 rfl ?_ | refine gkT Tk Tryz.func12 rfl ?_ | refine skT Tk ?_ | refine gcF Tk Tryz.func12 rfl ?_ | refine gkF Tk Tryz.func12 rfl ?_ | refine skF Tk ?_)
      refine g_loop ?_
      refine ih (i + 1) _ _ h2 (by omega) ⟨rfl, rfl, rfl, rfl, hi1, trivial⟩ rfl ⟨rfl, rfl, rfl, rfl, ?_, trivial⟩ rfl rfl
      show some (oedgs (rawE gt n s i ++ rowE gt n i s k)) = _
      rw [hk2, hE]
  · have h2 : n ≤ i := by simpa using g1
    obtain rfl : i = n := by omega
    refine g_stop ?_
    refine rch_wk (wk_freeze 38 rfl rfl) ?_
    refine rch_wk (wk_freeze 75 rfl rfl) ?_
    refine rch_wk (wk_imm rfl) ?_
    refine g_run Tk Tryz.func12 ?_
    refine g_go Tk Tryz.func12 ?_
    first | refine g_call Tk Tryz.func12 (hcan _) rfl rfl rfl rfl rfl ?_ | refine s_callq Tk (fun _ => hcan _) rfl rfl rfl ?_
    refine g_ret Tk (r := autD R) rfl rfl rfl trivial rfl rfl ?_
    rfl
end Go.AI


/- Plain: what Make makes passes the check. -/
namespace Go.AI
theorem chkA_of {a : Aut} (h1 : checkSet 32 a.alpha none = 0) (h2 : 0 ≤ a.states ∧ a.states ≤ 4096) (h3 : checkSet a.states a.marked none = 0) (h4 : chkEds a.alpha a.states none a.edges = 0) : chkA a = 0 := by
  unfold chkA
  rw [if_neg (by rw [h1]; simp), if_neg (by omega), if_neg (by omega)]
  first
    | (rw [if_neg (by rw [h3]; simp)]; exact h4)
    | (simp only [h3, h4]; simp)
theorem rows_lt {f : Nat → List Edg} (h1 : ∀ i, ∀ x ∈ f i, x.1 = (i : Int)) (h2 : ∀ i, (f i).Pairwise fun x y => x.2.1 < y.2.1) : ∀ n, ((List.range n).flatMap f).Pairwise ltE
  | 0 => by simp
  | n + 1 => by
    rw [List.range_succ, List.flatMap_append, List.pairwise_append]
    refine ⟨rows_lt h1 h2 n, ?_, ?_⟩
    · rw [List.flatMap_cons, List.flatMap_nil, List.append_nil]
      have : (f n).Pairwise fun x y => (x ∈ f n ∧ y ∈ f n) ∧ x.2.1 < y.2.1 := List.Pairwise.imp_of_mem (fun {a b} ha hb h => ⟨⟨ha, hb⟩, h⟩) (h2 n)
      exact this.imp fun {x y} h => .inr ⟨by rw [h1 n x h.1.1, h1 n y h.1.2], h.2⟩
    · intro x hx y hy
      obtain ⟨i, hi, hx⟩ := List.mem_flatMap.1 hx
      rw [List.flatMap_cons, List.flatMap_nil, List.append_nil] at hy
      have := List.mem_range.1 hi
      exact .inl (by rw [h1 i x hx, h1 n y hy]; omega)
theorem rawM_ok (b : Int) (n : Nat) : (rawM b n).Pairwise (· < ·) ∧ ∀ x ∈ rawM b n, 0 ≤ x ∧ x < (n : Int) := by
  unfold rawM
  refine ⟨?_, fun x hx => ?_⟩
  · rw [List.pairwise_map]
    have : (List.range n).Pairwise (· < ·) := List.pairwise_lt_range
    exact (this.filter _).imp fun {a b} h => by omega
  · obtain ⟨i, hi, rfl⟩ := List.mem_map.1 hx
    have := List.mem_range.1 (List.mem_filter.1 hi).1
    omega
theorem tgtV_nn {x : Int} {n : Nat} (hx : 0 ≤ x ∧ x ≤ 255) (hn : n ≤ 5) : 0 ≤ tgtV x n := by
  unfold tgtV
  rw [w64 (by omega) (by omega), w64 (by omega) (by omega)]
  exact Int.tmod_nonneg _ hx.1
theorem rawN_b (gs : Int) : 1 ≤ rawN gs ∧ rawN gs ≤ 5 := by
  have h1 : 0 ≤ gs % 5 ∧ gs % 5 < 5 := ⟨Int.emod_nonneg _ (by decide), Int.emod_lt_of_pos _ (by decide)⟩
  unfold rawN
  omega
theorem mem_rowE {gt : Nat → Int} {n i : Nat} {s : List Int} {k : Nat} {x : Edg} (h : x ∈ rowE gt n i s k) : ∃ j, j < k ∧ ∃ ev, s[j]? = some ev ∧ tgtV (gt (5 * i + j)) n < n ∧ x = ((i : Int), ev, tgtV (gt (5 * i + j)) n) := by
  unfold rowE at h
  obtain ⟨j, hj, hx⟩ := List.mem_filterMap.1 h
  refine ⟨j, List.mem_range.1 hj, ?_⟩
  cases hs : s[j]? with
  | none => rw [hs] at hx; cases hx
  | some ev =>
    rw [hs] at hx
    by_cases c : tgtV (gt (5 * i + j)) n < n
    · simp only [c, if_true, Option.some.injEq] at hx
      exact ⟨ev, rfl, c, hx.symm⟩
    · simp only [c, if_false] at hx
      cases hx
theorem raw_ok {s : List Int} {gs gm : Int} {gt : Nat → Int} (hs : s.Pairwise (· < ·)) (hr : ∀ x ∈ s, 0 ≤ x ∧ x < 32) (hsl : s.length ≤ 5) (hg : ∀ j, 0 ≤ gt j ∧ gt j ≤ 255) : autOk (rawA s gs gm gt) := by
  obtain ⟨n1, n5⟩ := rawN_b gs
  have hm := rawM_ok gm (rawN gs)
  have hml := rawM_len gm (rawN gs)
  have hel := rawE_len gt (rawN gs) s (rawN gs)
  have hel2 : s.length * rawN gs ≤ 5 * 5 := Nat.mul_le_mul hsl n5
  refine ⟨by show (rawE gt (rawN gs) s (rawN gs)).length ≤ 1000000; omega, by show s.length ≤ 1000000; omega, by show (rawM gm (rawN gs)).length ≤ 1000000; omega, chkA_of ?_ ?_ ?_ ?_⟩
  · exact checkSet_of hs hr (fun y e => by cases e)
  · show (0 : Int) ≤ ((rawN gs : Nat) : Int) ∧ ((rawN gs : Nat) : Int) ≤ 4096
    omega
  · exact checkSet_of hm.1 hm.2 (fun y e => by cases e)
  · refine chkEds_of ?_ ?_ (fun y e => by cases e)
    · refine rows_lt (fun i x hx => ?_) (fun i => ?_) _
      · obtain ⟨j, _, ev, _, _, rfl⟩ := mem_rowE hx
        rfl
      · unfold rowE
        have hrg : (List.range s.length).Pairwise (· < ·) := List.pairwise_lt_range
        refine List.Pairwise.filterMap _ (fun a b hab x hx y hy => ?_) hrg
        have hget : ∀ {a : Nat} {x : Edg}, (match s[a]? with
            | some ev => if tgtV (gt (5 * i + a)) (rawN gs) < (rawN gs : Int) then some ((i : Int), ev, tgtV (gt (5 * i + a)) (rawN gs)) else none
            | none => none) = some x → s[a]? = some x.2.1 := by
          intro a x hx
          cases hs : s[a]? with
          | none => rw [hs] at hx; cases hx
          | some ev =>
            rw [hs] at hx
            by_cases c : tgtV (gt (5 * i + a)) (rawN gs) < (rawN gs : Int)
            · simp only [c, if_true, Option.some.injEq] at hx
              rw [← hx]
            · simp only [c, if_false] at hx
              cases hx
        have hx := hget hx
        have hy := hget hy
        obtain ⟨ha, ha2⟩ := List.getElem?_eq_some_iff.1 hx
        obtain ⟨hb, hb2⟩ := List.getElem?_eq_some_iff.1 hy
        rw [← ha2, ← hb2]
        exact List.pairwise_iff_getElem.1 hs a b ha hb hab
    · intro x hx
      obtain ⟨i, hi, hx⟩ := List.mem_flatMap.1 hx
      have hi := List.mem_range.1 hi
      obtain ⟨j, _, ev, he, ht, rfl⟩ := mem_rowE hx
      have := tgtV_nn (hg (5 * i + j)) n5
      refine ⟨⟨by simp only; omega, ?_⟩, ⟨this, ht⟩, List.mem_of_getElem? he⟩
      show (i : Int) < ((rawN gs : Nat) : Int)
      omega
/- Found. -/
theorem fvis_ok {es : List Edg} {s n : Int} (hes : ∀ x ∈ es, 0 ≤ x.2.2 ∧ x.2.2 < n) : ∀ {al out : List Int}, fOk n out → fOk n (fvis es s al out)
  | [], out, h => h
  | ev :: r, out, h => by
    simp only [fvis]
    split
    · rename_i c
      refine fvis_ok hes (fOk_app h ?_ c.2)
      rcases stp3_b (n := n) (es := es) (s := s) (ev := ev) hes with h1 | h1
      · rw [h1] at c; exact absurd c.1 (by decide)
      · exact h1
    · exact fvis_ok hes h
theorem fvis_pre {es : List Edg} {s : Int} : ∀ {al out : List Int}, out <+: fvis es s al out
  | [], out => List.prefix_refl _
  | ev :: r, out => by
    simp only [fvis]
    split
    · exact (List.prefix_append _ _).trans fvis_pre
    · exact fvis_pre
theorem fvis_has {es : List Edg} {s : Int} : ∀ {al out : List Int} {ev : Int}, ev ∈ al → 0 ≤ stp3 es s ev → stp3 es s ev ∈ fvis es s al out
  | e :: r, out, ev, h, c => by
    simp only [fvis]
    rcases List.mem_cons.1 h with rfl | h
    · by_cases c2 : stp3 es s ev ∈ out
      · rw [if_neg (fun h => h.2 c2)]
        exact fvis_pre.subset c2
      · rw [if_pos ⟨c, c2⟩]
        exact fvis_pre.subset (by simp)
    · exact fvis_has h c
theorem fndL_ok {es : List Edg} {al : List Int} {n : Nat} (hn : 1 ≤ n) (hes : ∀ x ∈ es, 0 ≤ x.2.2 ∧ x.2.2 < (n : Int)) {N : Nat} (hN : n < N) : ∀ (f i : Nat) (out : List Int), f + i = N → i ≤ out.length → fOk n out → (∀ s ∈ out.take i, ∀ ev ∈ al, 0 ≤ stp3 es s ev → stp3 es s ev ∈ out) →
    fOk n (fndL es al f i out) ∧ (∀ s ∈ fndL es al f i out, ∀ ev ∈ al, 0 ≤ stp3 es s ev → stp3 es s ev ∈ fndL es al f i out) ∧ out <+: fndL es al f i out
  | 0, i, out, hf, hi, h, _ => by
    rcases fOk_len h with h1 | h1
    · omega
    · rw [h1] at hi
      simp at hi
      omega
  | f + 1, i, out, hf, hi, h, hc => by
    simp only [fndL]
    cases hg : out[i]? with
    | none =>
      have : out.length ≤ i := by
        rcases Nat.lt_or_ge i out.length with h1 | h1
        · rw [List.getElem?_eq_getElem h1] at hg; cases hg
        · exact h1
      rw [List.take_of_length_le this] at hc
      exact ⟨h, hc, List.prefix_refl _⟩
    | some s =>
      have hlt : i < out.length := (List.getElem?_eq_some_iff.1 hg).1
      have hp := fvis_pre (es := es) (s := s) (al := al) (out := out)
      obtain ⟨r, hr⟩ := hp
      have htk : (fvis es s al out).take (i + 1) = out.take i ++ [s] := by
        rw [← hr, List.take_append_of_le_length (by omega), List.take_add_one, hg]; rfl
      obtain ⟨h1, h2, h3⟩ := fndL_ok hn hes hN f (i + 1) (fvis es s al out) (by omega) (by rw [← hr, List.length_append]; omega) (fvis_ok hes h) (fun t ht ev he c => by
        rw [htk, List.mem_append, List.mem_singleton] at ht
        rcases ht with ht | rfl
        · exact fvis_pre.subset (hc t ht ev he c)
        · exact fvis_has he c)
      exact ⟨h1, h2, fvis_pre.trans h3⟩
theorem found_ok {a : Aut} {n : Nat} (hst : a.states = n) (hn : 1 ≤ n ∧ n ≤ 4096) (hes : ∀ x ∈ a.edges, 0 ≤ x.2.2 ∧ x.2.2 < (n : Int)) :
    fOk n (foundR a) ∧ (∀ s ∈ foundR a, ∀ ev ∈ a.alpha, 0 ≤ stp3 a.edges s ev → stp3 a.edges s ev ∈ foundR a) ∧ [(0 : Int)] <+: foundR a :=
  fndL_ok hn.1 hes (N := 4097) (by omega) 4097 0 [0] rfl (by simp) ⟨by simp, fun x hx => by rw [List.mem_singleton] at hx; subst hx; constructor <;> omega⟩ (by simp)
theorem idxI_lt {t : Int} : ∀ {l : List Int} {i : Nat}, t ∈ l → (i : Int) ≤ idxI t l i ∧ idxI t l i < (i + l.length : Nat)
  | [], _, h => by simp at h
  | y :: r, i, h => by
    simp only [idxI]
    split
    · constructor
      · omega
      · simp only [List.length_cons]; omega
    · rename_i hne
      have hr : t ∈ r := by
        rcases List.mem_cons.1 h with rfl | h
        · simp at hne
        · exact h
      have := idxI_lt (i := i + 1) hr
      simp only [List.length_cons]
      constructor <;> omega
/-- What is canonical passes the check. -/
theorem can_ok {a : Aut} {n : Nat} (ha : autOk a) (hst : a.states = n) (hn : 1 ≤ n ∧ n ≤ 4096) : gAut (canR a (foundR a)) (foundR a).length ∧ (foundR a).length ≤ n := by
  obtain ⟨c1, c2, c3, c4⟩ := chk_parts ha.chk
  obtain ⟨_, eb, _⟩ := chkEds_sorted c4
  have hes : ∀ x ∈ a.edges, 0 ≤ x.2.2 ∧ x.2.2 < (n : Int) := fun x hx => by have := (eb x hx).2.1; rw [hst] at this; exact this
  obtain ⟨f1, f2, f3⟩ := found_ok hst hn hes
  have hal := checkSet_len (by decide) c1
  have hal : a.alpha.length ≤ 32 := by omega
  have hpw := (checkSet_sorted c1).1
  have hF : (foundR a).length ≤ n := by
    rcases fOk_len f1 with h | h
    · omega
    · rw [h]; simp
  generalize foundR a = F at *
  have hce := cEd_len (es := a.edges) (F := F) (al := a.alpha) (i := F.length) hal
  have hcm := cMk_len (F := F) (marked := a.marked) (i := F.length)
  refine ⟨⟨rfl, ⟨?_, ?_, ?_⟩, chkA_of c1 ?_ ?_ ?_⟩, hF⟩
  · show (cEd a.edges F a.alpha F.length).length ≤ 1000000
    omega
  · exact ha.al
  · show (cMk F a.marked F.length).length ≤ 1000000
    omega
  · show (0 : Int) ≤ (F.length : Int) ∧ (F.length : Int) ≤ 4096
    omega
  · show checkSet (F.length : Int) (cMk F a.marked F.length) none = 0
    unfold cMk
    refine checkSet_of ?_ (fun x hx => ?_) (fun y e => by cases e)
    · rw [List.pairwise_map]
      have : (List.range F.length).Pairwise (· < ·) := List.pairwise_lt_range
      exact (this.filter _).imp fun {a b} h => by omega
    · obtain ⟨i, hi, rfl⟩ := List.mem_map.1 hx
      have := List.mem_range.1 (List.mem_filter.1 hi).1
      omega
  · show chkEds a.alpha (F.length : Int) none (cEd a.edges F a.alpha F.length) = 0
    have hmem : ∀ {k : Nat} {x : Edg}, x ∈ (match F[k]? with
        | none => []
        | some s => a.alpha.filterMap (cOf a.edges F k s)) → ∃ s, F[k]? = some s ∧ x.1 = (k : Int) ∧ x.2.1 ∈ a.alpha ∧ 0 ≤ stp3 a.edges s x.2.1 ∧ x.2.2 = idxI (stp3 a.edges s x.2.1) F 0 := by
      intro k x hx
      cases hs : F[k]? with
      | none => rw [hs] at hx; cases hx
      | some s =>
        rw [hs] at hx
        obtain ⟨ev, he, hx⟩ := List.mem_filterMap.1 hx
        unfold cOf at hx
        by_cases c : 0 ≤ stp3 a.edges s ev
        · rw [if_pos c] at hx
          obtain rfl := Option.some.inj hx
          exact ⟨s, rfl, rfl, he, c, rfl⟩
        · rw [if_neg c] at hx; cases hx
    unfold cEd
    refine chkEds_of (rows_lt (fun i x hx => ?_) (fun i => ?_) _) (fun x hx => ?_) (fun y e => by cases e)
    · obtain ⟨_, _, h, _⟩ := hmem hx
      exact h
    · cases hs : F[i]? with
      | none => exact .nil
      | some s =>
        refine List.Pairwise.filterMap _ (fun p q hpq x hx y hy => ?_) hpw
        unfold cOf at hx hy
        by_cases cp : 0 ≤ stp3 a.edges s p
        · by_cases cq : 0 ≤ stp3 a.edges s q
          · rw [if_pos cp] at hx
            rw [if_pos cq] at hy
            obtain rfl := Option.some.inj hx
            obtain rfl := Option.some.inj hy
            exact hpq
          · rw [if_neg cq] at hy; cases hy
        · rw [if_neg cp] at hx; cases hx
    · obtain ⟨i, hi, hx⟩ := List.mem_flatMap.1 hx
      have hi := List.mem_range.1 hi
      obtain ⟨s, hs, h1, h2, h3, h4⟩ := hmem hx
      have h5 := f2 s (List.mem_of_getElem? hs) _ h2 h3
      have h6 := idxI_lt (i := 0) h5
      refine ⟨by rw [h1]; omega, ?_, h2⟩
      rw [h4]
      constructor
      · have := h6.1; omega
      · have := h6.2; omega
theorem mkA_ok {s : List Int} {gs gm : Int} {gt : Nat → Int} (hs : s.Pairwise (· < ·)) (hr : ∀ x ∈ s, 0 ≤ x ∧ x < 32) (hsl : s.length ≤ 5) (hg : ∀ j, 0 ≤ gt j ∧ gt j ≤ 255) :
    (autOk (rawA s gs gm gt) ∧ (foundR (rawA s gs gm gt)).length ≤ 4096) ∧ (∃ n, n ≤ 5 ∧ gAut (mkA s gs gm gt) n) ∧ (mkA s gs gm gt).alpha = s := by
  have hok := raw_ok (gs := gs) (gm := gm) hs hr hsl hg
  obtain ⟨n1, n5⟩ := rawN_b gs
  obtain ⟨h1, h2⟩ := can_ok hok (n := rawN gs) rfl ⟨n1, by omega⟩
  refine ⟨⟨hok, by omega⟩, ?_, ?_⟩
  · unfold mkA
    split
    · refine ⟨0, by omega, rfl, ⟨by simp, by simp only; omega, by simp⟩, chkA_of (checkSet_of hs hr (fun y e => by cases e)) ⟨by simp, by simp⟩ rfl rfl⟩
    · exact ⟨_, by omega, h1⟩
  · unfold mkA
    split <;> rfl
theorem evs_ok (b : Int) : (evsOf b).Pairwise (· < ·) ∧ (∀ x ∈ evsOf b, 0 ≤ x ∧ x < 32) ∧ (evsOf b).length ≤ 5 := by
  obtain ⟨h1, h2⟩ := rawM_ok b 5
  exact ⟨h1, fun x hx => by have := h2 x hx; omega, rawM_len b 5⟩
end Go.AI


/- Plain: Observer is what the law says. -/
namespace Go.AI
section
variable {S : Type} [DecidableEq S]
def runG (nx : S → Int → S) (ok : S → Bool) (evs : S → List Int) : S → List Int → Option S
  | x, [] => some x
  | x, ev :: w => if ev ∈ evs x ∧ ok (nx x ev) = true then runG nx ok evs (nx x ev) w else none
theorem runG_snoc {nx : S → Int → S} {ok : S → Bool} {evs : S → List Int} {ev : Int} : ∀ (w : List Int) (x0 x : S), runG nx ok evs x0 w = some x → ev ∈ evs x → ok (nx x ev) = true → runG nx ok evs x0 (w ++ [ev]) = some (nx x ev)
  | [], x0, x, h, h1, h2 => by
    simp only [runG, Option.some.injEq] at h
    subst h
    simp only [List.nil_append, runG]
    rw [if_pos ⟨h1, h2⟩]
  | e :: w, x0, x, h, h1, h2 => by
    simp only [runG] at h
    by_cases c : e ∈ evs x0 ∧ ok (nx x0 e) = true
    · rw [if_pos c] at h
      simp only [List.cons_append, runG]
      rw [if_pos c]
      exact runG_snoc w _ x h h1 h2
    · rw [if_neg c] at h; cases h
theorem bvis_run {nx : S → Int → S} {ok : S → Bool} {evs : S → List Int} {x0 : S} {x : S × List Int} (hx : runG nx ok evs x0 x.2 = some x.1) : ∀ {es : List Int} {l : List (S × List Int)}, (∀ ev ∈ es, ev ∈ evs x.1) → (∀ z ∈ l, runG nx ok evs x0 z.2 = some z.1) → ∀ z ∈ bvis nx ok x es l, runG nx ok evs x0 z.2 = some z.1
  | [], l, _, h => h
  | ev :: r, l, he, h => by
    simp only [bvis]
    refine bvis_run hx (fun e h => he e (by simp [h])) ?_
    split
    · rename_i c
      intro z hz
      rcases List.mem_append.1 hz with hz | hz
      · exact h z hz
      · rw [List.mem_singleton] at hz
        subst hz
        exact runG_snoc _ _ _ hx (he ev (by simp)) c.1
    · exact h
theorem bfull_run {nx : S → Int → S} {ok : S → Bool} {evs : S → List Int} {x0 : S} : ∀ (f i : Nat) (l : List (S × List Int)), (∀ z ∈ l, runG nx ok evs x0 z.2 = some z.1) → ∀ z ∈ bfull nx ok evs f i l, runG nx ok evs x0 z.2 = some z.1
  | 0, _, l, h => h
  | f + 1, i, l, h => by
    simp only [bfull]
    cases hi : l[i]? with
    | none => exact h
    | some x => exact bfull_run f (i + 1) _ (bvis_run (h x (List.mem_of_getElem? hi)) (fun _ h => h) h)
end
theorem clo_nil (es : List Edg) (p : Int → Bool) (n : Nat) : clo es p n [] = [] := by
  have : reachB es p n [] = [] := rlB_done (by simp) _
  unfold clo
  rw [this]
  refine List.eq_nil_iff_forall_not_mem.2 fun x hx => ?_
  have := (mem_sortedBelow.1 hx).2
  cases this
theorem nxt_nil (es : List Edg) (p : Int → Bool) (n : Nat) (ev : Int) : nxt es p n [] ev = [] := by
  unfold nxt
  have : tgtE es [] ev = [] := by simp [tgtE]
  rw [this, clo_nil]
theorem badM_ok {a : Aut} {y : PS} (h : badM a y.1 y.2 = true) : okX y = true := by
  unfold badM at h
  unfold okX
  cases hy : y.1 with
  | nil => rw [hy] at h; simp at h
  | cons x r => simp
def hX (y : PS) : Option PS := if okX y = true then some y else none
theorem hX_some {y z : PS} (h : hX y = some z) : z = y ∧ okX y = true := by
  unfold hX at h
  by_cases c : okX y = true
  · rw [if_pos c] at h; exact ⟨(Option.some.inj h).symm, c⟩
  · rw [if_neg c] at h; cases h
theorem okX_some {y : PS} (h : okX y = true) : someP y = true := by
  unfold okX at h
  unfold someP
  have := of_decide_eq_true h
  exact decide_eq_true (by omega)
theorem hX_find {a : Aut} (l : List (PS × List Int)) : (l.find? fun z => badM a z.1.1 z.1.2) = ((l.find? fun z => optB (fun y : PS => badM a y.1 y.2) (hX z.1)).bind fun z => (hX z.1).map fun y => (y, z.2)) := by
  have e : (fun z : PS × List Int => optB (fun y : PS => badM a y.1 y.2) (hX z.1)) = fun z => badM a z.1.1 z.1.2 := by
    funext z
    cases hz : hX z.1 with
    | none =>
      simp only [optB]
      cases hb : badM a z.1.1 z.1.2 with
      | false => rfl
      | true =>
        have := badM_ok hb
        unfold hX at hz
        rw [if_pos this] at hz
        cases hz
    | some y =>
      obtain ⟨rfl, _⟩ := hX_some hz
      rfl
  rw [e]
  cases hf : l.find? fun z => badM a z.1.1 z.1.2 with
  | none => rfl
  | some z =>
    have hb := List.find?_some hf
    have := badM_ok hb
    simp only [Option.bind_some, hX]
    rw [if_pos this]
    rfl
/-- The program's search for a pair that differs, and the law's. -/
theorem dif_mis (a : Aut) (on un A B : List Int) (n : Nat) (hn : n ≤ 5) (hA : A ∈ subs n) (hB : B ∈ subs n) : difR a on un n (badM a) A B = misR a on n A B := by
  unfold difR misR
  rw [low_un on un]
  generalize lowP on [] false = lp
  have hsi := stepP_in a.edges lp n
  have hVl := pairsV_len hn
  have hB0 : bOk (pairsV n) [((A, B), ([] : List Int))] := bOk_one (mem_pairsV.2 ⟨hA, hB⟩)
  have hnx : ∀ x : PS, okX x = false → ∀ ev, okX (stepP a.edges lp n x ev) = false := fun x hx ev => by
    have : x.1 = [] := by
      unfold okX at hx
      have := of_decide_eq_false hx
      exact List.eq_nil_of_length_eq_zero (by omega)
    unfold okX stepP
    rw [this, nxt_nil]
    rfl
  rw [bsr_find (V := pairsV n) (N := 4096) (fun x _ ev _ _ => hsi x ev) (by omega) 4096 0 _ rfl (by simp) hB0 (by simp)]
  rw [bsr_find (V := pairsV n) (N := 4096) (fun x _ ev _ _ => hsi x ev) (by omega) 4096 0 _ rfl (by simp) hB0 (by simp)]
  rw [hX_find]
  have hi := bfull_img (V := pairsV n) (nx := stepP a.edges lp n) (ok := someP) (evs := fun _ => keptR a on) (nx' := stepP a.edges lp n) (ok' := okX) (evs' := fun _ => keptR a on) (h := hX) (N := 4096)
    (fun x _ ev _ _ => hsi x ev)
    (fun x _ hx ev _ => by
      unfold hX at hx ⊢
      by_cases c : okX x = true
      · rw [if_pos c] at hx; cases hx
      · rw [if_neg]
        rw [hnx x (by simpa using c) ev]
        simp)
    (fun x _ y hy => ⟨rfl, fun ev => by
      obtain ⟨rfl, _⟩ := hX_some hy
      unfold hX
      by_cases c : okX (stepP a.edges lp n y ev) = true
      · rw [if_pos (okX_some c)]
      · rw [if_neg c]
        split <;> rfl⟩)
    (by omega) 4096 0 4096 [((A, B), [])] rfl (by simp) (Nat.le_refl _) hB0 (by simp)
  have hf := img_find hX (fun y => badM a y.1 y.2) (bfull (stepP a.edges lp n) someP (fun _ => keptR a on) 4096 0 [((A, B), [])])
  rw [hi] at hf
  refine Eq.trans hf.symm ?_
  by_cases c : okX (A, B) = true
  · have e : img hX [((A, B), ([] : List Int))] = [((A, B), [])] := by
      unfold img hX
      simp only [List.foldl_cons, List.foldl_nil, c, if_true]
      rfl
    have e5 : (img hX (List.take 0 [((A, B), ([] : List Int))])).length = 0 := rfl
    rw [e, e5]
  · have e : img hX [((A, B), ([] : List Int))] = [] := by
      unfold img hX
      simp only [List.foldl_cons, List.foldl_nil]
      rw [if_neg c]
    have e2 : bvis (stepP a.edges lp n) okX ((A, B), []) (keptR a on) [((A, B), [])] = [((A, B), [])] := by
      rw [bvis_filter]
      have : (keptR a on).filter (fun ev => okX (stepP a.edges lp n ((A, B), ([] : List Int)).1 ev)) = [] := List.filter_eq_nil_iff.2 fun ev _ => by
        rw [hnx (A, B) (by simpa using c) ev]
        simp
      rw [this]
      rfl
    have e3 : ∀ f, bfull (stepP a.edges lp n) okX (fun _ => keptR a on) (f + 1 + 1) 0 [((A, B), [])] = [((A, B), [])] := fun f => by
      have g0 : [((A, B), ([] : List Int))][0]? = some ((A, B), []) := rfl
      have g1 : [((A, B), ([] : List Int))][0 + 1]? = none := rfl
      rw [bfull, g0]
      simp only
      rw [e2, bfull, g1]
    have e3 := e3 4094
    have e5 : (img hX (List.take 0 [((A, B), ([] : List Int))])).length = 0 := rfl
    rw [e, e3, e5]
    have e4 : badM a A B = false := by
      cases hb : badM a A B with
      | false => rfl
      | true => exact absurd (badM_ok (y := (A, B)) hb) c
    simp only [List.find?_cons, e4, List.find?_nil]
    rfl
theorem find?_congr' {α : Type} {p q : α → Bool} : ∀ {l : List α}, (∀ x ∈ l, p x = q x) → l.find? p = l.find? q
  | [], _ => rfl
  | x :: r, h => by
    rw [List.find?_cons, List.find?_cons, h x (by simp), find?_congr' fun y hy => h y (by simp [hy])]
/-- The events out of a state. -/
theorem evO_eq {a : Aut} {n : Nat} (h : gAut a n) (on : List Int) (x : OS) (hx : x ∈ statesV n) : evO a.edges x = a.alpha.filter fun ev => okO (nxO a.edges on [] n x ev) := by
  have hpw := h.pw
  refine lt_ext ?_ ?_ fun ev => ?_
  · unfold evO
    rw [List.pairwise_map]
    have hq : (a.edges.filter fun e => e.1 == x.1).Pairwise ltE := hpw.filter _
    refine (List.Pairwise.imp_of_mem (fun {p q} hp hq h => ?_) hq)
    have h1 : p.1 = x.1 := by simpa using (List.mem_filter.1 hp).2
    have h2 : q.1 = x.1 := by simpa using (List.mem_filter.1 hq).2
    rcases h with h | h
    · omega
    · exact h.2
  · exact (checkSet_sorted (chk_parts h.c).1).1.filter _
  · unfold evO
    simp only [List.mem_map, List.mem_filter, beq_iff_eq]
    constructor
    · rintro ⟨e, ⟨he, h1⟩, rfl⟩
      have h2 := stp3_of hpw he
      rw [h1] at h2
      have := (h.to e he).1
      refine ⟨h.ev e he, ?_⟩
      show decide (0 ≤ stp3 a.edges x.1 e.2.1) = true
      rw [h2]
      exact decide_eq_true this
    · rintro ⟨he, h1⟩
      have h1 : 0 ≤ stp3 a.edges x.1 ev := of_decide_eq_true h1
      by_cases c : ∃ e ∈ a.edges, e.1 = x.1 ∧ e.2.1 = ev
      · obtain ⟨e, he, h2, h3⟩ := c
        exact ⟨e, ⟨he, h2⟩, h3⟩
      · rw [stp3_no fun e he h => c ⟨e, he, h⟩] at h1
        exact absurd h1 (by decide)
def obV (a : Aut) (on : List Int) (n : Nat) : Option (OS × List Int) → List Int × List Int × Bool
  | none => ([], [], true)
  | some z => (z.2, (match misR a on n z.1.2 (clo a.edges (lowP on [] false) n [z.1.1]) with | some t => t.2 | none => []), false)
theorem obL_find (a : Aut) (on : List Int) (n : Nat) : ∀ l, obL a on n l = obV a on n (l.find? fun z => (misR a on n z.1.2 (clo a.edges (lowP on [] false) n [z.1.1])).isSome)
  | [] => rfl
  | z :: r => by
    simp only [obL, List.find?_cons]
    cases hm : misR a on n z.1.2 (clo a.edges (lowP on [] false) n [z.1.1]) with
    | none =>
      simp only [Option.isSome_none]
      exact obL_find a on n r
    | some t => simp only [Option.isSome_some, obV, hm]
theorem prs_eq {a : Aut} {n : Nat} (h : gAut a n) (hn : n ≤ 5) (hn0 : n ≠ 0) (on : List Int) : bfull (nxO a.edges on [] n) (fun _ => true) (evO a.edges) 4096 0 [((0, clo a.edges (lowP on [] false) n [0]), [])] = prsR a on n := by
  unfold prsR
  rw [if_neg hn0]
  symm
  exact bfull_filter (V := statesV n) (fun x hx ev he => nxO_in h on x hx a.alpha ev he) (fun x hx => evO_eq h on x hx) _ _ _ (bOk_one (mem_statesV.2 ⟨by simp only; omega, sorted_subs _ _⟩))
theorem evO_in {a : Aut} {n : Nat} (h : gAut a n) (on : List Int) : ∀ x ∈ statesV n, ∀ ev ∈ evO a.edges x, (fun _ : OS => true) (nxO a.edges on [] n x ev) = true → nxO a.edges on [] n x ev ∈ statesV n := fun x hx ev he _ => by
  rw [evO_eq h on x hx] at he
  obtain ⟨h1, h2⟩ := List.mem_filter.1 he
  exact nxO_in h on x hx a.alpha ev h1 h2
/-- OBSERVER IS WHAT THE LAW SAYS. -/
theorem obs_eq {a : Aut} {n : Nat} (h : gAut a n) (hn : n ≤ 5) (on : List Int) : obsO a on [] n (obsR a on [] n) = obL a on n (prsR a on n) := by
  by_cases hn0 : n = 0
  · unfold obsR prsR
    rw [if_pos hn0, if_pos hn0]
    rfl
  have hVl := statesV_len hn
  have hB0 : bOk (statesV n) [(((0 : Int), clo a.edges (lowP on [] false) n [0]), ([] : List Int))] := bOk_one (mem_statesV.2 ⟨by simp only; omega, sorted_subs _ _⟩)
  have hdm : ∀ z ∈ prsR a on n, refR a on [] n z.1.2 z.1.1 = misR a on n z.1.2 (clo a.edges (lowP on [] false) n [z.1.1]) := fun z hz => by
    have := (mem_statesV.1 ((prs_bOk h on).el z hz)).2
    exact dif_mis a on [] _ _ n hn this (sorted_subs _ _)
  rw [obL_find]
  unfold obsR
  rw [if_neg hn0, bsr_find (V := statesV n) (N := 4096) (evO_in h on) (by omega) 4096 0 _ rfl (by simp) hB0 (by simp), prs_eq h hn hn0 on]
  have e : (prsR a on n).find? (fun z => badO a on [] n z.1) = (prsR a on n).find? fun z => (misR a on n z.1.2 (clo a.edges (lowP on [] false) n [z.1.1])).isSome := by
    refine find?_congr' fun z hz => ?_
    show (refR a on [] n z.1.2 z.1.1).isSome = _
    rw [hdm z hz]
  rw [e]
  cases hf : (prsR a on n).find? fun z => (misR a on n z.1.2 (clo a.edges (lowP on [] false) n [z.1.1])).isSome with
  | none => rfl
  | some z =>
    show (z.2, (match refR a on [] n z.1.2 z.1.1 with | some t => t.2 | none => []), false) = _
    rw [hdm z (List.mem_of_find?_eq_some hf)]
    rfl
end Go.AI


/- Plain: what refutes is accepted. -/
namespace Go.AI
theorem runG_O {a : Aut} {on : List Int} {n : Nat} : ∀ (w : List Int) (x y : OS), runG (nxO a.edges on [] n) okO (fun _ => a.alpha) x w = some y → runO a.edges on [] n x w = some y
  | [], x, y, h => by simpa [runG, runO] using h
  | ev :: w, x, y, h => by
    simp only [runG] at h
    by_cases c : ev ∈ a.alpha ∧ okO (nxO a.edges on [] n x ev) = true
    · rw [if_pos c] at h
      have h1 : 0 ≤ stp3 a.edges x.1 ev := of_decide_eq_true c.2
      simp only [runO]
      rw [if_neg (by omega)]
      exact runG_O w _ y h
    · rw [if_neg c] at h; cases h
theorem runG_P {es : List Edg} {lp : Int → Bool} {n : Nat} {kp : List Int} : ∀ (w : List Int) (x y : PS), runG (stepP es lp n) okX (fun _ => kp) x w = some y → (∀ ev ∈ w, ev ∈ kp) ∧ y = (nxtL es lp n x.1 w, nxtL es lp n x.2 w)
  | [], x, y, h => by
    simp only [runG, Option.some.injEq] at h
    subst h
    exact ⟨by simp, rfl⟩
  | ev :: w, x, y, h => by
    simp only [runG] at h
    by_cases c : ev ∈ kp ∧ okX (stepP es lp n x ev) = true
    · rw [if_pos c] at h
      obtain ⟨h1, h2⟩ := runG_P w _ y h
      refine ⟨fun e he => ?_, h2⟩
      rcases List.mem_cons.1 he with rfl | he
      · exact c.1
      · exact h1 e he
    · rw [if_neg c] at h; cases h
theorem bOk_wl {S : Type} [DecidableEq S] {V : List S} {l : List (S × List Int)} (h : bOk V l) {z : S × List Int} (hz : z ∈ l) : z.2.length ≤ V.length := by
  obtain ⟨j, hj, e⟩ := List.getElem_of_mem hz
  have h1 := h.wl j z (by rw [List.getElem?_eq_getElem hj, e])
  have h2 := bOk_len h
  omega
theorem prs_run {a : Aut} {n : Nat} (on : List Int) {z : OS × List Int} (hz : z ∈ prsR a on n) : n ≠ 0 ∧ runO a.edges on [] n (0, clo a.edges (lowP on [] false) n [0]) z.2 = some z.1 := by
  unfold prsR at hz
  by_cases hn0 : n = 0
  · rw [if_pos hn0] at hz; cases hz
  rw [if_neg hn0] at hz
  refine ⟨hn0, runG_O _ _ _ (bfull_run (x0 := ((0, clo a.edges (lowP on [] false) n [0]) : OS)) _ _ _ (fun y hy => ?_) z hz)⟩
  rw [List.mem_singleton] at hy
  subst hy
  rfl
theorem mis_run {a : Aut} {on A B : List Int} {n : Nat} (hn : n ≤ 5) (hA : A ∈ subs n) (hB : B ∈ subs n) {t : PS × List Int} (h : misR a on n A B = some t) :
    (∀ ev ∈ t.2, ev ∈ keptR a on) ∧ badM a (nxtL a.edges (lowP on [] false) n A t.2) (nxtL a.edges (lowP on [] false) n B t.2) = true ∧ t.2.length ≤ 1024 := by
  have hsi := stepP_in a.edges (lowP on [] false) n
  have hVl := pairsV_len hn
  have hB0 : bOk (pairsV n) [((A, B), ([] : List Int))] := bOk_one (mem_pairsV.2 ⟨hA, hB⟩)
  unfold misR at h
  rw [bsr_find (V := pairsV n) (N := 4096) (fun x _ ev _ _ => hsi x ev) (by omega) 4096 0 _ rfl (by simp) hB0 (by simp)] at h
  have hm := List.mem_of_find?_eq_some h
  have hb := List.find?_some h
  have hk := bfull_ok (V := pairsV n) (nx := stepP a.edges (lowP on [] false) n) (ok := okX) (evs := fun _ => keptR a on) (fun x _ ev _ _ => hsi x ev) 4096 0 _ hB0
  have hl := bOk_wl hk hm
  have hr := bfull_run (x0 := ((A, B) : PS)) (nx := stepP a.edges (lowP on [] false) n) (ok := okX) (evs := fun _ => keptR a on) 4096 0 [((A, B), [])] (fun y hy => by
    rw [List.mem_singleton] at hy
    subst hy
    rfl) t hm
  obtain ⟨h1, h2⟩ := runG_P _ _ _ hr
  refine ⟨h1, ?_, by omega⟩
  rw [h2] at hb
  exact hb
end Go.AI


/- Law Observer. -/
namespace Go.AI
open Go.Proofs
set_option maxRecDepth 20000
abbrev grOkB (gs : Int) (gt : Nat → Int) : Prop := 0 ≤ gs ∧ ∀ j, 0 ≤ gt j ∧ gt j ≤ 255
theorem opE_good {a : Aut} {on un : List Int} (h : chkA a = 0) (h1 : checkSet 32 on none = 0) (h2 : checkSet 32 un none = 0) : opE a on un = 0 := by
  unfold opE
  rw [if_neg (fun c => c h), if_neg (fun c => c h1), h2]
theorem evs_chk (b : Int) : checkSet 32 (evsOf b) none = 0 := checkSet_of (evs_ok b).1 (evs_ok b).2.1 (fun y e => by cases e)
end Go.AI


/- Sets and graphs as arguments: data. -/
namespace Go.Proofs.YtmhllkmceipdcaaGreatDoor
open Go.ChangeShapes Go.WideShapes Go.ChangeAt Go.RowKit Go.Deep Go.WideElems
set_option maxRecDepth 100000
section
variable {H : Type} {enc : TypeId × Value → H} {P : Program} {W : World}
theorem okWide_array {r : Reach} {b0 n : Nat} {t e : TypeId} {v : Value} (ht : P.underlying t = some (.array n e)) (h : Value.okWide P W r b0 t v) : ∃ cs, v = .agg cs := by
  simp only [Value.okWide, ht] at h
  obtain ⟨cs, rfl, _⟩ := h
  exact ⟨cs, rfl⟩
theorem opn_arrayG {t e : TypeId} {m z : Nat} {R : List AI.I → Prop} (ht : P.underlying t = some (.array m e)) (hc : P.cellsOf e = z) (hct : P.cellsOf t = m * z) (he : Opn enc P W e R) :
    Opn enc P W t fun is => ∃ xs : List (List AI.I), xs.length = m ∧ is = xs.flatten ∧ ∀ x ∈ xs, R x := by
  intro n cs x h
  obtain ⟨xs, f, rfl, rfl, hl, hlen, hx⟩ := DataW.trod_array ht h
  rw [hct] at hl
  have build : ∀ k, k ≤ m → ∃ ys : List (List AI.I), ys.length = k ∧ AI.RepL (KW W) (cs.take (k * z)) ys.flatten ∧ ∀ y ∈ ys, R y := by
    intro k
    induction k with
    | zero => intro _; exact ⟨[], rfl, by rw [Nat.zero_mul, List.take_zero]; exact .nil, by simp⟩
    | succ k ih =>
      intro hk
      obtain ⟨ys, h1, h2, h3⟩ := ih (by omega)
      have h0 := hx k (by omega)
      rw [hc, List.getElem?_eq_getElem (by omega)] at h0
      obtain ⟨is, hr, hR⟩ := he _ _ _ h0
      refine ⟨ys ++ [is], by simp [h1], ?_, fun y hy => ?_⟩
      · rw [Nat.succ_mul, List.take_add, List.flatten_append]
        simpa using repL_app h2 hr
      · rcases List.mem_append.1 hy with hy | hy
        · exact h3 y hy
        · rw [List.mem_singleton] at hy
          subst hy
          exact hR
  obtain ⟨ys, h1, h2, h3⟩ := build m (Nat.le_refl _)
  rw [List.take_of_length_le (by omega)] at h2
  exact ⟨_, h2, ys, h1, rfl, h3⟩
theorem flat_u8 : ∀ {xs : List (List AI.I)}, (∀ x ∈ xs, ∃ zs : List Int, zs.length = 5 ∧ x = zs.map (fun z => AI.I.v (.int .u8 z)) ∧ ∀ z ∈ zs, (Lit.int .u8 z).wf = true) → ∃ L : List Int, L.length = 5 * xs.length ∧ xs.flatten = L.map (fun z => AI.I.v (.int .u8 z)) ∧ ∀ z ∈ L, 0 ≤ z ∧ z ≤ 255
  | [], _ => ⟨[], rfl, rfl, by simp⟩
  | x :: r, h => by
    obtain ⟨zs, h1, h2, h3⟩ := h x (by simp)
    obtain ⟨L, g1, g2, g3⟩ := flat_u8 (xs := r) fun y hy => h y (by simp [hy])
    refine ⟨zs ++ L, by rw [List.length_append, h1, g1, List.length_cons]; omega, by rw [List.flatten_cons, h2, g2, List.map_append], fun z hz => ?_⟩
    rcases List.mem_append.1 hz with hz | hz
    · exact wf_u8 (h3 z hz)
    · exact g3 z hz
end
section
variable {H : Type} {enc : TypeId × Value → H} {W : World}
theorem open_set3 {r : Reach} {b0 : Nat} {v : Value} {d : DataW H} {p : List MemPlace} (hv : Value.okWide Tryz.prog W r b0 23 v) (h : DataW.Trod enc Tryz.prog W 0 (fun _ => true) true 23 v d p) :
    ∃ b : Int × Int × Int, True ∧ ∀ ρ sh, AI.RepD (KW W) ρ sh v (.agg [AI.u8D b.1, AI.u8D b.2.1, AI.u8D b.2.2]) := by
  obtain ⟨cs, rfl⟩ := okWide_array Tryz.underlying23 hv
  obtain ⟨n, hn⟩ := h
  obtain ⟨is, hr, zs, hz, rfl, _⟩ := opn_array Tryz.underlying23 Tryz.underlying22 (by kernel_rfl) (by kernel_rfl) n _ _ hn
  match zs, hz with
  | [x, y, z], _ =>
    refine ⟨(x, y, z), trivial, fun ρ sh => ?_⟩
    have := AI.RepD.agg (AI.RepDL.ofL (ρ := ρ) (sh := sh) hr)
    simpa [Value.cells] using this
/-- A graph, by value. -/
theorem open_graph {r : Reach} {b0 : Nat} {v : Value} {d : DataW H} {p : List MemPlace} (hv : Value.okWide Tryz.prog W r b0 27 v) (h : DataW.Trod enc Tryz.prog W 0 (fun _ => true) true 27 v d p) :
    ∃ g : Int × Int × (Nat → Int), AI.grOkB g.1 g.2.2 ∧ ∀ ρ sh, AI.RepD (KW W) ρ sh v (.agg (AI.grC g.1 g.2.1 g.2.2)) := by
  obtain ⟨cs, rfl, _⟩ := okWide_struct Tryz.underlying27 hv
  obtain ⟨n, hn⟩ := h
  obtain ⟨is, hr, a, b, c, rfl, ⟨x, rfl, hx⟩, ⟨y, rfl, _⟩, ⟨xs, h5, rfl, hxs⟩⟩ := opn_struct3 Tryz.underlying27 (z0 := 1) (z1 := 1) (z2 := 25) (by kernel_rfl) (by kernel_rfl) (by kernel_rfl) (by kernel_rfl) rfl rfl rfl
    (opn_int Tryz.underlying5) (opn_int Tryz.underlying5) (opn_arrayG Tryz.underlying25 (z := 5) (by kernel_rfl) (by kernel_rfl) (opn_array Tryz.underlying24 Tryz.underlying5 (by kernel_rfl) (by kernel_rfl))) n _ _ hn
  obtain ⟨L, g1, g2, g3⟩ := flat_u8 hxs
  rw [h5] at g1
  rw [g2] at hr
  refine ⟨(x, y, fun j => L.getD j 0), ⟨(wf_u8 hx).1, fun j => ?_⟩, fun ρ sh => ?_⟩
  · show 0 ≤ L.getD j 0 ∧ L.getD j 0 ≤ 255
    rw [List.getD_eq_getElem?_getD]
    cases hj : L[j]? with
    | none => exact ⟨by decide, by decide⟩
    | some z => exact g3 z (List.mem_of_getElem? hj)
  · have := AI.RepD.agg (AI.RepDL.ofL (ρ := ρ) (sh := sh) hr)
    match L, g1 with
    | [a0, a1, a2, a3, a4, a5, a6, a7, a8, a9, a10, a11, a12, a13, a14, a15, a16, a17, a18, a19, a20, a21, a22, a23, a24], _ => exact (by simpa [Value.cells] using this : AI.RepD (KW W) ρ sh (.agg cs) (.agg [AI.u8D x, AI.u8D y, AI.u8D a0, AI.u8D a1, AI.u8D a2, AI.u8D a3, AI.u8D a4, AI.u8D a5, AI.u8D a6, AI.u8D a7, AI.u8D a8, AI.u8D a9, AI.u8D a10, AI.u8D a11, AI.u8D a12, AI.u8D a13, AI.u8D a14, AI.u8D a15, AI.u8D a16, AI.u8D a17, AI.u8D a18, AI.u8D a19, AI.u8D a20, AI.u8D a21, AI.u8D a22, AI.u8D a23, AI.u8D a24]))
end
end Go.Proofs.YtmhllkmceipdcaaGreatDoor
