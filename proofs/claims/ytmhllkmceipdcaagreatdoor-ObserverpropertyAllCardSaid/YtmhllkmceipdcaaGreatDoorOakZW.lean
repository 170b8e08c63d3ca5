/- The layer of abstract runs, part 49. -/
import Derived.Test.YtmhllkmceipdcaaGreatDoorOakZV
set_option linter.unusedSimpArgs false
set_option linter.unusedVariables false
set_option linter.all false

/- Plain: what Make makes passes the check. -/
namespace Go.AI
theorem chkA_of {a : Aut} (h1 : checkSet 32 a.alpha none = 0) (h2 : 0 ≤ a.states ∧ a.states ≤ 4096) (h3 : checkSet a.states a.marked none = 0) (h4 : chkEds a.alpha a.states none a.edges = 0) : chkA a = 0 := by
  unfold chkA
  rw [if_neg (by rw [h1]; simp), if_neg (by omega), if_neg (by omega)]
  first
    | (rw [if_neg (by rw [h3]; simp)]; exact h4)
    | (simp only [h3, h4]; simp)
theorem rows_lt {f : Nat → List Edg} (h1 : ∀ i, ∀ x ∈ f i, x.1 = (i : Int)) (h2 : ∀ i, (f i).Pairwise fun x y => x.2.1 < y.2.1) : ∀ n, ((List.range n).flatMap f).Pairwise ltE
  | 0 => by simp
  | n + 1 => by
    rw [List.range_succ, List.flatMap_append, List.pairwise_append]
    refine ⟨rows_lt h1 h2 n, ?_, ?_⟩
    · rw [List.flatMap_cons, List.flatMap_nil, List.append_nil]
      have : (f n).Pairwise fun x y => (x ∈ f n ∧ y ∈ f n) ∧ x.2.1 < y.2.1 := List.Pairwise.imp_of_mem (fun {a b} ha hb h => ⟨⟨ha, hb⟩, h⟩) (h2 n)
      exact this.imp fun {x y} h => .inr ⟨by rw [h1 n x h.1.1, h1 n y h.1.2], h.2⟩
    · intro x hx y hy
      obtain ⟨i, hi, hx⟩ := List.mem_flatMap.1 hx
      rw [List.flatMap_cons, List.flatMap_nil, List.append_nil] at hy
      have := List.mem_range.1 hi
      exact .inl (by rw [h1 i x hx, h1 n y hy]; omega)
theorem rawM_ok (b : Int) (n : Nat) : (rawM b n).Pairwise (· < ·) ∧ ∀ x ∈ rawM b n, 0 ≤ x ∧ x < (n : Int) := by
  unfold rawM
  refine ⟨?_, fun x hx => ?_⟩
  · rw [List.pairwise_map]
    have : (List.range n).Pairwise (· < ·) := List.pairwise_lt_range
    exact (this.filter _).imp fun {a b} h => by omega
  · obtain ⟨i, hi, rfl⟩ := List.mem_map.1 hx
    have := List.mem_range.1 (List.mem_filter.1 hi).1
    omega
theorem tgtV_nn {x : Int} {n : Nat} (hx : 0 ≤ x ∧ x ≤ 255) (hn : n ≤ 5) : 0 ≤ tgtV x n := by
  unfold tgtV
  rw [w64 (by omega) (by omega), w64 (by omega) (by omega)]
  exact Int.tmod_nonneg _ hx.1
theorem rawN_b (gs : Int) : 1 ≤ rawN gs ∧ rawN gs ≤ 5 := by
  have h1 : 0 ≤ gs % 5 ∧ gs % 5 < 5 := ⟨Int.emod_nonneg _ (by decide), Int.emod_lt_of_pos _ (by decide)⟩
  unfold rawN
  omega
theorem mem_rowE {gt : Nat → Int} {n i : Nat} {s : List Int} {k : Nat} {x : Edg} (h : x ∈ rowE gt n i s k) : ∃ j, j < k ∧ ∃ ev, s[j]? = some ev ∧ tgtV (gt (5 * i + j)) n < n ∧ x = ((i : Int), ev, tgtV (gt (5 * i + j)) n) := by
  unfold rowE at h
  obtain ⟨j, hj, hx⟩ := List.mem_filterMap.1 h
  refine ⟨j, List.mem_range.1 hj, ?_⟩
  cases hs : s[j]? with
  | none => rw [hs] at hx; cases hx
  | some ev =>
    rw [hs] at hx
    by_cases c : tgtV (gt (5 * i + j)) n < n
    · simp only [c, if_true, Option.some.injEq] at hx
      exact ⟨ev, rfl, c, hx.symm⟩
    · simp only [c, if_false] at hx
      cases hx
theorem raw_ok {s : List Int} {gs gm : Int} {gt : Nat → Int} (hs : s.Pairwise (· < ·)) (hr : ∀ x ∈ s, 0 ≤ x ∧ x < 32) (hsl : s.length ≤ 5) (hg : ∀ j, 0 ≤ gt j ∧ gt j ≤ 255) : autOk (rawA s gs gm gt) := by
  obtain ⟨n1, n5⟩ := rawN_b gs
  have hm := rawM_ok gm (rawN gs)
  have hml := rawM_len gm (rawN gs)
  have hel := rawE_len gt (rawN gs) s (rawN gs)
  have hel2 : s.length * rawN gs ≤ 5 * 5 := Nat.mul_le_mul hsl n5
  refine ⟨by show (rawE gt (rawN gs) s (rawN gs)).length ≤ 1000000; omega, by show s.length ≤ 1000000; omega, by show (rawM gm (rawN gs)).length ≤ 1000000; omega, chkA_of ?_ ?_ ?_ ?_⟩
  · exact checkSet_of hs hr (fun y e => by cases e)
  · show (0 : Int) ≤ ((rawN gs : Nat) : Int) ∧ ((rawN gs : Nat) : Int) ≤ 4096
    omega
  · exact checkSet_of hm.1 hm.2 (fun y e => by cases e)
  · refine chkEds_of ?_ ?_ (fun y e => by cases e)
    · refine rows_lt (fun i x hx => ?_) (fun i => ?_) _
      · obtain ⟨j, _, ev, _, _, rfl⟩ := mem_rowE hx
        rfl
      · unfold rowE
        have hrg : (List.range s.length).Pairwise (· < ·) := List.pairwise_lt_range
        refine List.Pairwise.filterMap _ (fun a b hab x hx y hy => ?_) hrg
        have hget : ∀ {a : Nat} {x : Edg}, (match s[a]? with
            | some ev => if tgtV (gt (5 * i + a)) (rawN gs) < (rawN gs : Int) then some ((i : Int), ev, tgtV (gt (5 * i + a)) (rawN gs)) else none
            | none => none) = some x → s[a]? = some x.2.1 := by
          intro a x hx
          cases hs : s[a]? with
          | none => rw [hs] at hx; cases hx
          | some ev =>
            rw [hs] at hx
            by_cases c : tgtV (gt (5 * i + a)) (rawN gs) < (rawN gs : Int)
            · simp only [c, if_true, Option.some.injEq] at hx
              rw [← hx]
            · simp only [c, if_false] at hx
              cases hx
        have hx := hget hx
        have hy := hget hy
        obtain ⟨ha, ha2⟩ := List.getElem?_eq_some_iff.1 hx
        obtain ⟨hb, hb2⟩ := List.getElem?_eq_some_iff.1 hy
        rw [← ha2, ← hb2]
        exact List.pairwise_iff_getElem.1 hs a b ha hb hab
    · intro x hx
      obtain ⟨i, hi, hx⟩ := List.mem_flatMap.1 hx
      have hi := List.mem_range.1 hi
      obtain ⟨j, _, ev, he, ht, rfl⟩ := mem_rowE hx
      have := tgtV_nn (hg (5 * i + j)) n5
      refine ⟨⟨by simp only; omega, ?_⟩, ⟨this, ht⟩, List.mem_of_getElem? he⟩
      show (i : Int) < ((rawN gs : Nat) : Int)
      omega
/- Found. -/
theorem fvis_ok {es : List Edg} {s n : Int} (hes : ∀ x ∈ es, 0 ≤ x.2.2 ∧ x.2.2 < n) : ∀ {al out : List Int}, fOk n out → fOk n (fvis es s al out)
  | [], out, h => h
  | ev :: r, out, h => by
    simp only [fvis]
    split
    · rename_i c
      refine fvis_ok hes (fOk_app h ?_ c.2)
      rcases stp3_b (n := n) (es := es) (s := s) (ev := ev) hes with h1 | h1
      · rw [h1] at c; exact absurd c.1 (by decide)
      · exact h1
    · exact fvis_ok hes h
theorem fvis_pre {es : List Edg} {s : Int} : ∀ {al out : List Int}, out <+: fvis es s al out
  | [], out => List.prefix_refl _
  | ev :: r, out => by
    simp only [fvis]
    split
    · exact (List.prefix_append _ _).trans fvis_pre
    · exact fvis_pre
theorem fvis_has {es : List Edg} {s : Int} : ∀ {al out : List Int} {ev : Int}, ev ∈ al → 0 ≤ stp3 es s ev → stp3 es s ev ∈ fvis es s al out
  | e :: r, out, ev, h, c => by
    simp only [fvis]
    rcases List.mem_cons.1 h with rfl | h
    · by_cases c2 : stp3 es s ev ∈ out
      · rw [if_neg (fun h => h.2 c2)]
        exact fvis_pre.subset c2
      · rw [if_pos ⟨c, c2⟩]
        exact fvis_pre.subset (by simp)
    · exact fvis_has h c
theorem fndL_ok {es : List Edg} {al : List Int} {n : Nat} (hn : 1 ≤ n) (hes : ∀ x ∈ es, 0 ≤ x.2.2 ∧ x.2.2 < (n : Int)) {N : Nat} (hN : n < N) : ∀ (f i : Nat) (out : List Int), f + i = N → i ≤ out.length → fOk n out → (∀ s ∈ out.take i, ∀ ev ∈ al, 0 ≤ stp3 es s ev → stp3 es s ev ∈ out) →
    fOk n (fndL es al f i out) ∧ (∀ s ∈ fndL es al f i out, ∀ ev ∈ al, 0 ≤ stp3 es s ev → stp3 es s ev ∈ fndL es al f i out) ∧ out <+: fndL es al f i out
  | 0, i, out, hf, hi, h, _ => by
    rcases fOk_len h with h1 | h1
    · omega
    · rw [h1] at hi
      simp at hi
      omega
  | f + 1, i, out, hf, hi, h, hc => by
    simp only [fndL]
    cases hg : out[i]? with
    | none =>
      have : out.length ≤ i := by
        rcases Nat.lt_or_ge i out.length with h1 | h1
        · rw [List.getElem?_eq_getElem h1] at hg; cases hg
        · exact h1
      rw [List.take_of_length_le this] at hc
      exact ⟨h, hc, List.prefix_refl _⟩
    | some s =>
      have hlt : i < out.length := (List.getElem?_eq_some_iff.1 hg).1
      have hp := fvis_pre (es := es) (s := s) (al := al) (out := out)
      obtain ⟨r, hr⟩ := hp
      have htk : (fvis es s al out).take (i + 1) = out.take i ++ [s] := by
        rw [← hr, List.take_append_of_le_length (by omega), List.take_add_one, hg]; rfl
      obtain ⟨h1, h2, h3⟩ := fndL_ok hn hes hN f (i + 1) (fvis es s al out) (by omega) (by rw [← hr, List.length_append]; omega) (fvis_ok hes h) (fun t ht ev he c => by
        rw [htk, List.mem_append, List.mem_singleton] at ht
        rcases ht with ht | rfl
        · exact fvis_pre.subset (hc t ht ev he c)
        · exact fvis_has he c)
      exact ⟨h1, h2, fvis_pre.trans h3⟩
theorem found_ok {a : Aut} {n : Nat} (hst : a.states = n) (hn : 1 ≤ n ∧ n ≤ 4096) (hes : ∀ x ∈ a.edges, 0 ≤ x.2.2 ∧ x.2.2 < (n : Int)) :
    fOk n (foundR a) ∧ (∀ s ∈ foundR a, ∀ ev ∈ a.alpha, 0 ≤ stp3 a.edges s ev → stp3 a.edges s ev ∈ foundR a) ∧ [(0 : Int)] <+: foundR a :=
  fndL_ok hn.1 hes (N := 4097) (by omega) 4097 0 [0] rfl (by simp) ⟨by simp, fun x hx => by rw [List.mem_singleton] at hx; subst hx; constructor <;> omega⟩ (by simp)
theorem idxI_lt {t : Int} : ∀ {l : List Int} {i : Nat}, t ∈ l → (i : Int) ≤ idxI t l i ∧ idxI t l i < (i + l.length : Nat)
  | [], _, h => by simp at h
  | y :: r, i, h => by
    simp only [idxI]
    split
    · constructor
      · omega
      · simp only [List.length_cons]; omega
    · rename_i hne
      have hr : t ∈ r := by
        rcases List.mem_cons.1 h with rfl | h
        · simp at hne
        · exact h
      have := idxI_lt (i := i + 1) hr
      simp only [List.length_cons]
      constructor <;> omega
/-- What is canonical passes the check. -/
theorem can_ok {a : Aut} {n : Nat} (ha : autOk a) (hst : a.states = n) (hn : 1 ≤ n ∧ n ≤ 4096) : gAut (canR a (foundR a)) (foundR a).length ∧ (foundR a).length ≤ n := by
  obtain ⟨c1, c2, c3, c4⟩ := chk_parts ha.chk
  obtain ⟨_, eb, _⟩ := chkEds_sorted c4
  have hes : ∀ x ∈ a.edges, 0 ≤ x.2.2 ∧ x.2.2 < (n : Int) := fun x hx => by have := (eb x hx).2.1; rw [hst] at this; exact this
  obtain ⟨f1, f2, f3⟩ := found_ok hst hn hes
  have hal := checkSet_len (by decide) c1
  have hal : a.alpha.length ≤ 32 := by omega
  have hpw := (checkSet_sorted c1).1
  have hF : (foundR a).length ≤ n := by
    rcases fOk_len f1 with h | h
    · omega
    · rw [h]; simp
  generalize foundR a = F at *
  have hce := cEd_len (es := a.edges) (F := F) (al := a.alpha) (i := F.length) hal
  have hcm := cMk_len (F := F) (marked := a.marked) (i := F.length)
  refine ⟨⟨rfl, ⟨?_, ?_, ?_⟩, chkA_of c1 ?_ ?_ ?_⟩, hF⟩
  · show (cEd a.edges F a.alpha F.length).length ≤ 1000000
    omega
  · exact ha.al
  · show (cMk F a.marked F.length).length ≤ 1000000
    omega
  · show (0 : Int) ≤ (F.length : Int) ∧ (F.length : Int) ≤ 4096
    omega
  · show checkSet (F.length : Int) (cMk F a.marked F.length) none = 0
    unfold cMk
    refine checkSet_of ?_ (fun x hx => ?_) (fun y e => by cases e)
    · rw [List.pairwise_map]
      have : (List.range F.length).Pairwise (· < ·) := List.pairwise_lt_range
      exact (this.filter _).imp fun {a b} h => by omega
    · obtain ⟨i, hi, rfl⟩ := List.mem_map.1 hx
      have := List.mem_range.1 (List.mem_filter.1 hi).1
      omega
  · show chkEds a.alpha (F.length : Int) none (cEd a.edges F a.alpha F.length) = 0
    have hmem : ∀ {k : Nat} {x : Edg}, x ∈ (match F[k]? with
        | none => []
        | some s => a.alpha.filterMap (cOf a.edges F k s)) → ∃ s, F[k]? = some s ∧ x.1 = (k : Int) ∧ x.2.1 ∈ a.alpha ∧ 0 ≤ stp3 a.edges s x.2.1 ∧ x.2.2 = idxI (stp3 a.edges s x.2.1) F 0 := by
      intro k x hx
      cases hs : F[k]? with
      | none => rw [hs] at hx; cases hx
      | some s =>
        rw [hs] at hx
        obtain ⟨ev, he, hx⟩ := List.mem_filterMap.1 hx
        unfold cOf at hx
        by_cases c : 0 ≤ stp3 a.edges s ev
        · rw [if_pos c] at hx
          obtain rfl := Option.some.inj hx
          exact ⟨s, rfl, rfl, he, c, rfl⟩
        · rw [if_neg c] at hx; cases hx
    unfold cEd
    refine chkEds_of (rows_lt (fun i x hx => ?_) (fun i => ?_) _) (fun x hx => ?_) (fun y e => by cases e)
    · obtain ⟨_, _, h, _⟩ := hmem hx
      exact h
    · cases hs : F[i]? with
      | none => exact .nil
      | some s =>
        refine List.Pairwise.filterMap _ (fun p q hpq x hx y hy => ?_) hpw
        unfold cOf at hx hy
        by_cases cp : 0 ≤ stp3 a.edges s p
        · by_cases cq : 0 ≤ stp3 a.edges s q
          · rw [if_pos cp] at hx
            rw [if_pos cq] at hy
            obtain rfl := Option.some.inj hx
            obtain rfl := Option.some.inj hy
            exact hpq
          · rw [if_neg cq] at hy; cases hy
        · rw [if_neg cp] at hx; cases hx
    · obtain ⟨i, hi, hx⟩ := List.mem_flatMap.1 hx
      have hi := List.mem_range.1 hi
      obtain ⟨s, hs, h1, h2, h3, h4⟩ := hmem hx
      have h5 := f2 s (List.mem_of_getElem? hs) _ h2 h3
      have h6 := idxI_lt (i := 0) h5
      refine ⟨by rw [h1]; omega, ?_, h2⟩
      rw [h4]
      constructor
      · have := h6.1; omega
      · have := h6.2; omega
theorem evs_ok (b : Int) : (evsOf b).Pairwise (· < ·) ∧ (∀ x ∈ evsOf b, 0 ≤ x ∧ x < 32) ∧ (evsOf b).length ≤ 5 := by
  obtain ⟨h1, h2⟩ := rawM_ok b 5
  exact ⟨h1, fun x hx => by have := h2 x hx; omega, rawM_len b 5⟩
end Go.AI


/- Plain: Observer is what the law says. -/
namespace Go.AI
section
variable {S : Type} [DecidableEq S]
def runG (nx : S → Int → S) (ok : S → Bool) (evs : S → List Int) : S → List Int → Option S
  | x, [] => some x
  | x, ev :: w => if ev ∈ evs x ∧ ok (nx x ev) = true then runG nx ok evs (nx x ev) w else none
theorem runG_snoc {nx : S → Int → S} {ok : S → Bool} {evs : S → List Int} {ev : Int} : ∀ (w : List Int) (x0 x : S), runG nx ok evs x0 w = some x → ev ∈ evs x → ok (nx x ev) = true → runG nx ok evs x0 (w ++ [ev]) = some (nx x ev)
  | [], x0, x, h, h1, h2 => by
    simp only [runG, Option.some.injEq] at h
    subst h
    simp only [List.nil_append, runG]
    rw [if_pos ⟨h1, h2⟩]
  | e :: w, x0, x, h, h1, h2 => by
    simp only [runG] at h
    by_cases c : e ∈ evs x0 ∧ ok (nx x0 e) = true
    · rw [if_pos c] at h
      simp only [List.cons_append, runG]
      rw [if_pos c]
      exact runG_snoc w _ x h h1 h2
    · rw [if_neg c] at h; cases h
theorem bvis_run {nx : S → Int → S} {ok : S → Bool} {evs : S → List Int} {x0 : S} {x : S × List Int} (hx : runG nx ok evs x0 x.2 = some x.1) : ∀ {es : List Int} {l : List (S × List Int)}, (∀ ev ∈ es, ev ∈ evs x.1) → (∀ z ∈ l, runG nx ok evs x0 z.2 = some z.1) → ∀ z ∈ bvis nx ok x es l, runG nx ok evs x0 z.2 = some z.1
  | [], l, _, h => h
  | ev :: r, l, he, h => by
    simp only [bvis]
    refine bvis_run hx (fun e h => he e (by simp [h])) ?_
    split
    · rename_i c
      intro z hz
      rcases List.mem_append.1 hz with hz | hz
      · exact h z hz
      · rw [List.mem_singleton] at hz
        subst hz
        exact runG_snoc _ _ _ hx (he ev (by simp)) c.1
    · exact h
theorem bfull_run {nx : S → Int → S} {ok : S → Bool} {evs : S → List Int} {x0 : S} : ∀ (f i : Nat) (l : List (S × List Int)), (∀ z ∈ l, runG nx ok evs x0 z.2 = some z.1) → ∀ z ∈ bfull nx ok evs f i l, runG nx ok evs x0 z.2 = some z.1
  | 0, _, l, h => h
  | f + 1, i, l, h => by
    simp only [bfull]
    cases hi : l[i]? with
    | none => exact h
    | some x => exact bfull_run f (i + 1) _ (bvis_run (h x (List.mem_of_getElem? hi)) (fun _ h => h) h)
end
theorem clo_nil (es : List Edg) (p : Int → Bool) (n : Nat) : clo es p n [] = [] := by
  have : reachB es p n [] = [] := rlB_done (by simp) _
  unfold clo
  rw [this]
  refine List.eq_nil_iff_forall_not_mem.2 fun x hx => ?_
  have := (mem_sortedBelow.1 hx).2
  cases this
theorem nxt_nil (es : List Edg) (p : Int → Bool) (n : Nat) (ev : Int) : nxt es p n [] ev = [] := by
  unfold nxt
  have : tgtE es [] ev = [] := by simp [tgtE]
  rw [this, clo_nil]
theorem badM_ok {a : Aut} {y : PS} (h : badM a y.1 y.2 = true) : okX y = true := by
  unfold badM at h
  unfold okX
  cases hy : y.1 with
  | nil => rw [hy] at h; simp at h
  | cons x r => simp
def hX (y : PS) : Option PS := if okX y = true then some y else none
theorem hX_some {y z : PS} (h : hX y = some z) : z = y ∧ okX y = true := by
  unfold hX at h
  by_cases c : okX y = true
  · rw [if_pos c] at h; exact ⟨(Option.some.inj h).symm, c⟩
  · rw [if_neg c] at h; cases h
theorem okX_some {y : PS} (h : okX y = true) : someP y = true := by
  unfold okX at h
  unfold someP
  have := of_decide_eq_true h
  exact decide_eq_true (by omega)
theorem hX_find {a : Aut} (l : List (PS × List Int)) : (l.find? fun z => badM a z.1.1 z.1.2) = ((l.find? fun z => optB (fun y : PS => badM a y.1 y.2) (hX z.1)).bind fun z => (hX z.1).map fun y => (y, z.2)) := by
  have e : (fun z : PS × List Int => optB (fun y : PS => badM a y.1 y.2) (hX z.1)) = fun z => badM a z.1.1 z.1.2 := by
    funext z
    cases hz : hX z.1 with
    | none =>
      simp only [optB]
      cases hb : badM a z.1.1 z.1.2 with
      | false => rfl
      | true =>
        have := badM_ok hb
        unfold hX at hz
        rw [if_pos this] at hz
        cases hz
    | some y =>
      obtain ⟨rfl, _⟩ := hX_some hz
      rfl
  rw [e]
  cases hf : l.find? fun z => badM a z.1.1 z.1.2 with
  | none => rfl
  | some z =>
    have hb := List.find?_some hf
    have := badM_ok hb
    simp only [Option.bind_some, hX]
    rw [if_pos this]
    rfl
/-- The program's search for a pair that differs, and the law's. -/
theorem dif_mis (a : Aut) (on un A B : List Int) (n : Nat) (hn : n ≤ 5) (hA : A ∈ subs n) (hB : B ∈ subs n) : difR a on un n (badM a) A B = misR a on n A B := by
  unfold difR misR
  rw [low_un on un]
  generalize lowP on [] false = lp
  have hsi := stepP_in a.edges lp n
  have hVl := pairsV_len hn
  have hB0 : bOk (pairsV n) [((A, B), ([] : List Int))] := bOk_one (mem_pairsV.2 ⟨hA, hB⟩)
  have hnx : ∀ x : PS, okX x = false → ∀ ev, okX (stepP a.edges lp n x ev) = false := fun x hx ev => by
    have : x.1 = [] := by
      unfold okX at hx
      have := of_decide_eq_false hx
      exact List.eq_nil_of_length_eq_zero (by omega)
    unfold okX stepP
    rw [this, nxt_nil]
    rfl
  rw [bsr_find (V := pairsV n) (N := 4096) (fun x _ ev _ _ => hsi x ev) (by omega) 4096 0 _ rfl (by simp) hB0 (by simp)]
  rw [bsr_find (V := pairsV n) (N := 4096) (fun x _ ev _ _ => hsi x ev) (by omega) 4096 0 _ rfl (by simp) hB0 (by simp)]
  rw [hX_find]
  have hi := bfull_img (V := pairsV n) (nx := stepP a.edges lp n) (ok := someP) (evs := fun _ => keptR a on) (nx' := stepP a.edges lp n) (ok' := okX) (evs' := fun _ => keptR a on) (h := hX) (N := 4096)
    (fun x _ ev _ _ => hsi x ev)
    (fun x _ hx ev _ => by
      unfold hX at hx ⊢
      by_cases c : okX x = true
      · rw [if_pos c] at hx; cases hx
      · rw [if_neg]
        rw [hnx x (by simpa using c) ev]
        simp)
    (fun x _ y hy => ⟨rfl, fun ev => by
      obtain ⟨rfl, _⟩ := hX_some hy
      unfold hX
      by_cases c : okX (stepP a.edges lp n y ev) = true
      · rw [if_pos (okX_some c)]
      · rw [if_neg c]
        split <;> rfl⟩)
    (by omega) 4096 0 4096 [((A, B), [])] rfl (by simp) (Nat.le_refl _) hB0 (by simp)
  have hf := img_find hX (fun y => badM a y.1 y.2) (bfull (stepP a.edges lp n) someP (fun _ => keptR a on) 4096 0 [((A, B), [])])
  rw [hi] at hf
  refine Eq.trans hf.symm ?_
  by_cases c : okX (A, B) = true
  · have e : img hX [((A, B), ([] : List Int))] = [((A, B), [])] := by
      unfold img hX
      simp only [List.foldl_cons, List.foldl_nil, c, if_true]
      rfl
    have e5 : (img hX (List.take 0 [((A, B), ([] : List Int))])).length = 0 := rfl
    rw [e, e5]
  · have e : img hX [((A, B), ([] : List Int))] = [] := by
      unfold img hX
      simp only [List.foldl_cons, List.foldl_nil]
      rw [if_neg c]
    have e2 : bvis (stepP a.edges lp n) okX ((A, B), []) (keptR a on) [((A, B), [])] = [((A, B), [])] := by
      rw [bvis_filter]
      have : (keptR a on).filter (fun ev => okX (stepP a.edges lp n ((A, B), ([] : List Int)).1 ev)) = [] := List.filter_eq_nil_iff.2 fun ev _ => by
        rw [hnx (A, B) (by simpa using c) ev]
        simp
      rw [this]
      rfl
    have e3 : ∀ f, bfull (stepP a.edges lp n) okX (fun _ => keptR a on) (f + 1 + 1) 0 [((A, B), [])] = [((A, B), [])] := fun f => by
      have g0 : [((A, B), ([] : List Int))][0]? = some ((A, B), []) := rfl
      have g1 : [((A, B), ([] : List Int))][0 + 1]? = none := rfl
      rw [bfull, g0]
      simp only
      rw [e2, bfull, g1]
    have e3 := e3 4094
    have e5 : (img hX (List.take 0 [((A, B), ([] : List Int))])).length = 0 := rfl
    rw [e, e3, e5]
    have e4 : badM a A B = false := by
      cases hb : badM a A B with
      | false => rfl
      | true => exact absurd (badM_ok (y := (A, B)) hb) c
    simp only [List.find?_cons, e4, List.find?_nil]
    rfl
theorem find?_congr' {α : Type} {p q : α → Bool} : ∀ {l : List α}, (∀ x ∈ l, p x = q x) → l.find? p = l.find? q
  | [], _ => rfl
  | x :: r, h => by
    rw [List.find?_cons, List.find?_cons, h x (by simp), find?_congr' fun y hy => h y (by simp [hy])]
/-- The events out of a state. -/
theorem evO_eq {a : Aut} {n : Nat} (h : gAut a n) (on : List Int) (x : OS) (hx : x ∈ statesV n) : evO a.edges x = a.alpha.filter fun ev => okO (nxO a.edges on [] n x ev) := by
  have hpw := h.pw
  refine lt_ext ?_ ?_ fun ev => ?_
  · unfold evO
    rw [List.pairwise_map]
    have hq : (a.edges.filter fun e => e.1 == x.1).Pairwise ltE := hpw.filter _
    refine (List.Pairwise.imp_of_mem (fun {p q} hp hq h => ?_) hq)
    have h1 : p.1 = x.1 := by simpa using (List.mem_filter.1 hp).2
    have h2 : q.1 = x.1 := by simpa using (List.mem_filter.1 hq).2
    rcases h with h | h
    · omega
    · exact h.2
  · exact (checkSet_sorted (chk_parts h.c).1).1.filter _
  · unfold evO
    simp only [List.mem_map, List.mem_filter, beq_iff_eq]
    constructor
    · rintro ⟨e, ⟨he, h1⟩, rfl⟩
      have h2 := stp3_of hpw he
      rw [h1] at h2
      have := (h.to e he).1
      refine ⟨h.ev e he, ?_⟩
      show decide (0 ≤ stp3 a.edges x.1 e.2.1) = true
      rw [h2]
      exact decide_eq_true this
    · rintro ⟨he, h1⟩
      have h1 : 0 ≤ stp3 a.edges x.1 ev := of_decide_eq_true h1
      by_cases c : ∃ e ∈ a.edges, e.1 = x.1 ∧ e.2.1 = ev
      · obtain ⟨e, he, h2, h3⟩ := c
        exact ⟨e, ⟨he, h2⟩, h3⟩
      · rw [stp3_no fun e he h => c ⟨e, he, h⟩] at h1
        exact absurd h1 (by decide)
def obV (a : Aut) (on : List Int) (n : Nat) : Option (OS × List Int) → List Int × List Int × Bool
  | none => ([], [], true)
  | some z => (z.2, (match misR a on n z.1.2 (clo a.edges (lowP on [] false) n [z.1.1]) with | some t => t.2 | none => []), false)
theorem obL_find (a : Aut) (on : List Int) (n : Nat) : ∀ l, obL a on n l = obV a on n (l.find? fun z => (misR a on n z.1.2 (clo a.edges (lowP on [] false) n [z.1.1])).isSome)
  | [] => rfl
  | z :: r => by
    simp only [obL, List.find?_cons]
    cases hm : misR a on n z.1.2 (clo a.edges (lowP on [] false) n [z.1.1]) with
    | none =>
      simp only [Option.isSome_none]
      exact obL_find a on n r
    | some t => simp only [Option.isSome_some, obV, hm]
theorem prs_eq {a : Aut} {n : Nat} (h : gAut a n) (hn : n ≤ 5) (hn0 : n ≠ 0) (on : List Int) : bfull (nxO a.edges on [] n) (fun _ => true) (evO a.edges) 4096 0 [((0, clo a.edges (lowP on [] false) n [0]), [])] = prsR a on n := by
  unfold prsR
  rw [if_neg hn0]
  symm
  exact bfull_filter (V := statesV n) (fun x hx ev he => nxO_in h on x hx a.alpha ev he) (fun x hx => evO_eq h on x hx) _ _ _ (bOk_one (mem_statesV.2 ⟨by simp only; omega, sorted_subs _ _⟩))
theorem evO_in {a : Aut} {n : Nat} (h : gAut a n) (on : List Int) : ∀ x ∈ statesV n, ∀ ev ∈ evO a.edges x, (fun _ : OS => true) (nxO a.edges on [] n x ev) = true → nxO a.edges on [] n x ev ∈ statesV n := fun x hx ev he _ => by
  rw [evO_eq h on x hx] at he
  obtain ⟨h1, h2⟩ := List.mem_filter.1 he
  exact nxO_in h on x hx a.alpha ev h1 h2
/-- OBSERVER IS WHAT THE LAW SAYS. -/
theorem obs_eq {a : Aut} {n : Nat} (h : gAut a n) (hn : n ≤ 5) (on : List Int) : obsO a on [] n (obsR a on [] n) = obL a on n (prsR a on n) := by
  by_cases hn0 : n = 0
  · unfold obsR prsR
    rw [if_pos hn0, if_pos hn0]
    rfl
  have hVl := statesV_len hn
  have hB0 : bOk (statesV n) [(((0 : Int), clo a.edges (lowP on [] false) n [0]), ([] : List Int))] := bOk_one (mem_statesV.2 ⟨by simp only; omega, sorted_subs _ _⟩)
  have hdm : ∀ z ∈ prsR a on n, refR a on [] n z.1.2 z.1.1 = misR a on n z.1.2 (clo a.edges (lowP on [] false) n [z.1.1]) := fun z hz => by
    have := (mem_statesV.1 ((prs_bOk h on).el z hz)).2
    exact dif_mis a on [] _ _ n hn this (sorted_subs _ _)
  rw [obL_find]
  unfold obsR
  rw [if_neg hn0, bsr_find (V := statesV n) (N := 4096) (evO_in h on) (by omega) 4096 0 _ rfl (by simp) hB0 (by simp), prs_eq h hn hn0 on]
  have e : (prsR a on n).find? (fun z => badO a on [] n z.1) = (prsR a on n).find? fun z => (misR a on n z.1.2 (clo a.edges (lowP on [] false) n [z.1.1])).isSome := by
    refine find?_congr' fun z hz => ?_
    show (refR a on [] n z.1.2 z.1.1).isSome = _
    rw [hdm z hz]
  rw [e]
  cases hf : (prsR a on n).find? fun z => (misR a on n z.1.2 (clo a.edges (lowP on [] false) n [z.1.1])).isSome with
  | none => rfl
  | some z =>
    show (z.2, (match refR a on [] n z.1.2 z.1.1 with | some t => t.2 | none => []), false) = _
    rw [hdm z (List.mem_of_find?_eq_some hf)]
    rfl
end Go.AI


/- Plain: what refutes is accepted. -/
namespace Go.AI
theorem runG_O {a : Aut} {on : List Int} {n : Nat} : ∀ (w : List Int) (x y : OS), runG (nxO a.edges on [] n) okO (fun _ => a.alpha) x w = some y → runO a.edges on [] n x w = some y
  | [], x, y, h => by simpa [runG, runO] using h
  | ev :: w, x, y, h => by
    simp only [runG] at h
    by_cases c : ev ∈ a.alpha ∧ okO (nxO a.edges on [] n x ev) = true
    · rw [if_pos c] at h
      have h1 : 0 ≤ stp3 a.edges x.1 ev := of_decide_eq_true c.2
      simp only [runO]
      rw [if_neg (by omega)]
      exact runG_O w _ y h
    · rw [if_neg c] at h; cases h
theorem runG_P {es : List Edg} {lp : Int → Bool} {n : Nat} {kp : List Int} : ∀ (w : List Int) (x y : PS), runG (stepP es lp n) okX (fun _ => kp) x w = some y → (∀ ev ∈ w, ev ∈ kp) ∧ y = (nxtL es lp n x.1 w, nxtL es lp n x.2 w)
  | [], x, y, h => by
    simp only [runG, Option.some.injEq] at h
    subst h
    exact ⟨by simp, rfl⟩
  | ev :: w, x, y, h => by
    simp only [runG] at h
    by_cases c : ev ∈ kp ∧ okX (stepP es lp n x ev) = true
    · rw [if_pos c] at h
      obtain ⟨h1, h2⟩ := runG_P w _ y h
      refine ⟨fun e he => ?_, h2⟩
      rcases List.mem_cons.1 he with rfl | he
      · exact c.1
      · exact h1 e he
    · rw [if_neg c] at h; cases h
theorem bOk_wl {S : Type} [DecidableEq S] {V : List S} {l : List (S × List Int)} (h : bOk V l) {z : S × List Int} (hz : z ∈ l) : z.2.length ≤ V.length := by
  obtain ⟨j, hj, e⟩ := List.getElem_of_mem hz
  have h1 := h.wl j z (by rw [List.getElem?_eq_getElem hj, e])
  have h2 := bOk_len h
  omega
theorem prs_run {a : Aut} {n : Nat} (on : List Int) {z : OS × List Int} (hz : z ∈ prsR a on n) : n ≠ 0 ∧ runO a.edges on [] n (0, clo a.edges (lowP on [] false) n [0]) z.2 = some z.1 := by
  unfold prsR at hz
  by_cases hn0 : n = 0
  · rw [if_pos hn0] at hz; cases hz
  rw [if_neg hn0] at hz
  refine ⟨hn0, runG_O _ _ _ (bfull_run (x0 := ((0, clo a.edges (lowP on [] false) n [0]) : OS)) _ _ _ (fun y hy => ?_) z hz)⟩
  rw [List.mem_singleton] at hy
  subst hy
  rfl
theorem mis_run {a : Aut} {on A B : List Int} {n : Nat} (hn : n ≤ 5) (hA : A ∈ subs n) (hB : B ∈ subs n) {t : PS × List Int} (h : misR a on n A B = some t) :
    (∀ ev ∈ t.2, ev ∈ keptR a on) ∧ badM a (nxtL a.edges (lowP on [] false) n A t.2) (nxtL a.edges (lowP on [] false) n B t.2) = true ∧ t.2.length ≤ 1024 := by
  have hsi := stepP_in a.edges (lowP on [] false) n
  have hVl := pairsV_len hn
  have hB0 : bOk (pairsV n) [((A, B), ([] : List Int))] := bOk_one (mem_pairsV.2 ⟨hA, hB⟩)
  unfold misR at h
  rw [bsr_find (V := pairsV n) (N := 4096) (fun x _ ev _ _ => hsi x ev) (by omega) 4096 0 _ rfl (by simp) hB0 (by simp)] at h
  have hm := List.mem_of_find?_eq_some h
  have hb := List.find?_some h
  have hk := bfull_ok (V := pairsV n) (nx := stepP a.edges (lowP on [] false) n) (ok := okX) (evs := fun _ => keptR a on) (fun x _ ev _ _ => hsi x ev) 4096 0 _ hB0
  have hl := bOk_wl hk hm
  have hr := bfull_run (x0 := ((A, B) : PS)) (nx := stepP a.edges (lowP on [] false) n) (ok := okX) (evs := fun _ => keptR a on) 4096 0 [((A, B), [])] (fun y hy => by
    rw [List.mem_singleton] at hy
    subst hy
    rfl) t hm
  obtain ⟨h1, h2⟩ := runG_P _ _ _ hr
  refine ⟨h1, ?_, by omega⟩
  rw [h2] at hb
  exact hb
end Go.AI


/- Law Observer. -/
namespace Go.AI
open Go.Proofs
set_option maxRecDepth 20000
abbrev grOkB (gs : Int) (gt : Nat → Int) : Prop := 0 ≤ gs ∧ ∀ j, 0 ≤ gt j ∧ gt j ≤ 255
theorem opE_good {a : Aut} {on un : List Int} (h : chkA a = 0) (h1 : checkSet 32 on none = 0) (h2 : checkSet 32 un none = 0) : opE a on un = 0 := by
  unfold opE
  rw [if_neg (fun c => c h), if_neg (fun c => c h1), h2]
theorem evs_chk (b : Int) : checkSet 32 (evsOf b) none = 0 := checkSet_of (evs_ok b).1 (evs_ok b).2.1 (fun y e => by cases e)
end Go.AI


/- Sets and graphs as arguments: data. -/
namespace Go.Proofs.YtmhllkmceipdcaaGreatDoor
open Go.ChangeShapes Go.WideShapes Go.ChangeAt Go.RowKit Go.Deep Go.WideElems
set_option maxRecDepth 100000
section
variable {H : Type} {enc : TypeId × Value → H} {P : Program} {W : World}
theorem okWide_array {r : Reach} {b0 n : Nat} {t e : TypeId} {v : Value} (ht : P.underlying t = some (.array n e)) (h : Value.okWide P W r b0 t v) : ∃ cs, v = .agg cs := by
  simp only [Value.okWide, ht] at h
  obtain ⟨cs, rfl, _⟩ := h
  exact ⟨cs, rfl⟩
theorem opn_arrayG {t e : TypeId} {m z : Nat} {R : List AI.I → Prop} (ht : P.underlying t = some (.array m e)) (hc : P.cellsOf e = z) (hct : P.cellsOf t = m * z) (he : Opn enc P W e R) :
    Opn enc P W t fun is => ∃ xs : List (List AI.I), xs.length = m ∧ is = xs.flatten ∧ ∀ x ∈ xs, R x := by
  intro n cs x h
  obtain ⟨xs, f, rfl, rfl, hl, hlen, hx⟩ := DataW.trod_array ht h
  rw [hct] at hl
  have build : ∀ k, k ≤ m → ∃ ys : List (List AI.I), ys.length = k ∧ AI.RepL (KW W) (cs.take (k * z)) ys.flatten ∧ ∀ y ∈ ys, R y := by
    intro k
    induction k with
    | zero => intro _; exact ⟨[], rfl, by rw [Nat.zero_mul, List.take_zero]; exact .nil, by simp⟩
    | succ k ih =>
      intro hk
      obtain ⟨ys, h1, h2, h3⟩ := ih (by omega)
      have h0 := hx k (by omega)
      rw [hc, List.getElem?_eq_getElem (by omega)] at h0
      obtain ⟨is, hr, hR⟩ := he _ _ _ h0
      refine ⟨ys ++ [is], by simp [h1], ?_, fun y hy => ?_⟩
      · rw [Nat.succ_mul, List.take_add, List.flatten_append]
        simpa using repL_app h2 hr
      · rcases List.mem_append.1 hy with hy | hy
        · exact h3 y hy
        · rw [List.mem_singleton] at hy
          subst hy
          exact hR
  obtain ⟨ys, h1, h2, h3⟩ := build m (Nat.le_refl _)
  rw [List.take_of_length_le (by omega)] at h2
  exact ⟨_, h2, ys, h1, rfl, h3⟩
theorem flat_u8 : ∀ {xs : List (List AI.I)}, (∀ x ∈ xs, ∃ zs : List Int, zs.length = 5 ∧ x = zs.map (fun z => AI.I.v (.int .u8 z)) ∧ ∀ z ∈ zs, (Lit.int .u8 z).wf = true) → ∃ L : List Int, L.length = 5 * xs.length ∧ xs.flatten = L.map (fun z => AI.I.v (.int .u8 z)) ∧ ∀ z ∈ L, 0 ≤ z ∧ z ≤ 255
  | [], _ => ⟨[], rfl, rfl, by simp⟩
  | x :: r, h => by
    obtain ⟨zs, h1, h2, h3⟩ := h x (by simp)
    obtain ⟨L, g1, g2, g3⟩ := flat_u8 (xs := r) fun y hy => h y (by simp [hy])
    refine ⟨zs ++ L, by rw [List.length_append, h1, g1, List.length_cons]; omega, by rw [List.flatten_cons, h2, g2, List.map_append], fun z hz => ?_⟩
    rcases List.mem_append.1 hz with hz | hz
    · exact wf_u8 (h3 z hz)
    · exact g3 z hz
end
section
variable {H : Type} {enc : TypeId × Value → H} {W : World}
theorem open_set2 {r : Reach} {b0 : Nat} {v : Value} {d : DataW H} {p : List MemPlace} (hv : Value.okWide Tryz.prog W r b0 45 v) (h : DataW.Trod enc Tryz.prog W 0 (fun _ => true) true 45 v d p) :
    ∃ b : Int × Int, True ∧ ∀ ρ sh, AI.RepD (KW W) ρ sh v (.agg [AI.u8D b.1, AI.u8D b.2]) := by
  obtain ⟨cs, rfl⟩ := okWide_array Tryz.underlying45 hv
  obtain ⟨n, hn⟩ := h
  obtain ⟨is, hr, zs, hz, rfl, _⟩ := opn_array Tryz.underlying45 Tryz.underlying22 (by kernel_rfl) (by kernel_rfl) n _ _ hn
  match zs, hz with
  | [x, y], _ =>
    refine ⟨(x, y), trivial, fun ρ sh => ?_⟩
    have := AI.RepD.agg (AI.RepDL.ofL (ρ := ρ) (sh := sh) hr)
    simpa [Value.cells] using this
/-- A graph, by value. -/
theorem open_graph {r : Reach} {b0 : Nat} {v : Value} {d : DataW H} {p : List MemPlace} (hv : Value.okWide Tryz.prog W r b0 27 v) (h : DataW.Trod enc Tryz.prog W 0 (fun _ => true) true 27 v d p) :
    ∃ g : Int × Int × (Nat → Int), AI.grOkB g.1 g.2.2 ∧ ∀ ρ sh, AI.RepD (KW W) ρ sh v (.agg (AI.grC g.1 g.2.1 g.2.2)) := by
  obtain ⟨cs, rfl, _⟩ := okWide_struct Tryz.underlying27 hv
  obtain ⟨n, hn⟩ := h
  obtain ⟨is, hr, a, b, c, rfl, ⟨x, rfl, hx⟩, ⟨y, rfl, _⟩, ⟨xs, h5, rfl, hxs⟩⟩ := opn_struct3 Tryz.underlying27 (z0 := 1) (z1 := 1) (z2 := 25) (by kernel_rfl) (by kernel_rfl) (by kernel_rfl) (by kernel_rfl) rfl rfl rfl
    (opn_int Tryz.underlying5) (opn_int Tryz.underlying5) (opn_arrayG Tryz.underlying25 (z := 5) (by kernel_rfl) (by kernel_rfl) (opn_array Tryz.underlying24 Tryz.underlying5 (by kernel_rfl) (by kernel_rfl))) n _ _ hn
  obtain ⟨L, g1, g2, g3⟩ := flat_u8 hxs
  rw [h5] at g1
  rw [g2] at hr
  refine ⟨(x, y, fun j => L.getD j 0), ⟨(wf_u8 hx).1, fun j => ?_⟩, fun ρ sh => ?_⟩
  · show 0 ≤ L.getD j 0 ∧ L.getD j 0 ≤ 255
    rw [List.getD_eq_getElem?_getD]
    cases hj : L[j]? with
    | none => exact ⟨by decide, by decide⟩
    | some z => exact g3 z (List.mem_of_getElem? hj)
  · have := AI.RepD.agg (AI.RepDL.ofL (ρ := ρ) (sh := sh) hr)
    match L, g1 with
    | [a0, a1, a2, a3, a4, a5, a6, a7, a8, a9, a10, a11, a12, a13, a14, a15, a16, a17, a18, a19, a20, a21, a22, a23, a24], _ => exact (by simpa [Value.cells] using this : AI.RepD (KW W) ρ sh (.agg cs) (.agg [AI.u8D x, AI.u8D y, AI.u8D a0, AI.u8D a1, AI.u8D a2, AI.u8D a3, AI.u8D a4, AI.u8D a5, AI.u8D a6, AI.u8D a7, AI.u8D a8, AI.u8D a9, AI.u8D a10, AI.u8D a11, AI.u8D a12, AI.u8D a13, AI.u8D a14, AI.u8D a15, AI.u8D a16, AI.u8D a17, AI.u8D a18, AI.u8D a19, AI.u8D a20, AI.u8D a21, AI.u8D a22, AI.u8D a23, AI.u8D a24]))
end
end Go.Proofs.YtmhllkmceipdcaaGreatDoor


/- Plain: Consistent is what the law says. -/
namespace Go.AI
theorem enb_eq {a : Aut} {n : Nat} (h : gAut a n) (l : List Int) (ev : Int) : enabR a.edges l ev = enbR a.edges l ev := by
  unfold enabR enbR
  congr 1
  funext s
  cases hb : decide (stp3 a.edges s ev ≥ 0) with
  | true =>
    have h1 : stp3 a.edges s ev ≥ 0 := of_decide_eq_true hb
    by_cases c : ∃ e ∈ a.edges, e.1 = s ∧ e.2.1 = ev
    · obtain ⟨e, he, h2, h3⟩ := c
      exact List.any_eq_true.2 ⟨e, List.mem_filter.2 ⟨he, by simpa using h2⟩, by simpa using h3⟩
    · rw [stp3_no fun e he h => c ⟨e, he, h⟩] at h1
      exact absurd h1 (by decide)
  | false =>
    have h1 : ¬ stp3 a.edges s ev ≥ 0 := of_decide_eq_false hb
    cases hc : (a.edges.filter fun e => e.1 == s).any fun e => e.2.1 == ev with
    | false => rfl
    | true =>
      obtain ⟨e, he, h3⟩ := List.any_eq_true.1 hc
      obtain ⟨he, h2⟩ := List.mem_filter.1 he
      have h2 : e.1 = s := by simpa using h2
      have h3 : e.2.1 = ev := by simpa using h3
      have := stp3_of h.pw he
      rw [h2, h3] at this
      exact absurd (by rw [this]; exact (h.to e he).1) h1
theorem con_eq {a : Aut} {n : Nat} (h : gAut a n) (on un : List Int) (s ev : Int) : conR a on un n s ev = (decide (ev ∈ on) && (decide (ev ∈ un) && ctrR a on un n s ev)) := by
  unfold conR ctrR
  rw [enb_eq h, enb_eq h, low_un on un, Bool.and_assoc]
theorem csK_find (a : Aut) (on un : List Int) (n : Nat) (s : Int) : ∀ l, csK a on un n s l = l.find? fun ev => decide (ev ∈ un) && ctrR a on un n s ev
  | [] => rfl
  | ev :: r => by
    simp only [csK, List.find?_cons]
    by_cases c : ev ∈ un ∧ ctrR a on un n s ev = true
    · rw [if_pos c, show (decide (ev ∈ un) && ctrR a on un n s ev) = true by simp [c.1, c.2]]
    · rw [if_neg c, csK_find a on un n s r]
      cases hb : decide (ev ∈ un) && ctrR a on un n s ev with
      | false => rfl
      | true => exact absurd (by simpa using hb) c
theorem csK_eq {a : Aut} {n : Nat} (h : gAut a n) (on un : List Int) (s : Int) : csK a on un n s (keptR a on) = a.alpha.find? fun ev => conR a on un n s ev := by
  rw [csK_find]
  unfold keptR
  rw [List.find?_filter]
  refine find?_congr' fun ev _ => ?_
  rw [con_eq h]
  simp
def csV (a : Aut) (on un : List Int) (n : Nat) : Option (OS × List Int) → List Int × Int × Bool
  | none => ([], -1, true)
  | some z => (z.2, (csK a on un n z.1.1 (keptR a on)).getD 0, false)
theorem csL_find (a : Aut) (on un : List Int) (n : Nat) : ∀ l, csL a on un n l = csV a on un n (l.find? fun z => (csK a on un n z.1.1 (keptR a on)).isSome)
  | [] => rfl
  | z :: r => by
    simp only [csL, List.find?_cons]
    cases hm : csK a on un n z.1.1 (keptR a on) with
    | none =>
      simp only [Option.isSome_none]
      exact csL_find a on un n r
    | some t => simp only [Option.isSome_some, csV, hm, Option.getD_some]
theorem evC_in {a : Aut} {n : Nat} (h : gAut a n) : ∀ x ∈ intsV n, ∀ ev ∈ evC a.edges x, (fun _ : Int => true) (stp3 a.edges x ev) = true → stp3 a.edges x ev ∈ intsV n := fun x hx ev he _ => by
  unfold evC at he
  obtain ⟨e, hf, rfl⟩ := List.mem_map.1 he
  obtain ⟨hm, h2⟩ := List.mem_filter.1 hf
  have h2 : e.1 = x := by simpa using h2
  have := stp3_of h.pw hm
  rw [h2] at this
  rw [this]
  exact mem_intsV.2 (h.to e hm)
/-- The states, in the order in which the law finds them. -/
theorem sts_img {a : Aut} {n : Nat} (h : gAut a n) (hn : n ≤ 5) (hn0 : n ≠ 0) (on : List Int) : bfull (stp3 a.edges) (fun _ => true) (evC a.edges) 4096 0 [((0 : Int), [])] = img (fun x : OS => some x.1) (prsR a on n) := by
  have hVl := statesV_len hn
  have hB0 : bOk (statesV n) [(((0 : Int), clo a.edges (lowP on [] false) n [0]), ([] : List Int))] := bOk_one (mem_statesV.2 ⟨by simp only; omega, sorted_subs _ _⟩)
  rw [← prs_eq h hn hn0 on]
  have hi := bfull_img (V := statesV n) (nx := nxO a.edges on [] n) (ok := fun _ => true) (evs := evO a.edges) (nx' := stp3 a.edges) (ok' := fun _ => true) (evs' := evC a.edges) (h := fun x : OS => some x.1) (N := 4096)
    (evO_in h on) (fun x _ hx => by cases hx) (fun x _ y hy => by
      cases hy
      exact ⟨rfl, fun ev => rfl⟩) (by omega) 4096 0 4096 [((0, clo a.edges (lowP on [] false) n [0]), [])] rfl (by simp) (Nat.le_refl _) hB0 (by simp)
  rw [hi]
  have e : img (fun x : OS => some x.1) [(((0 : Int), clo a.edges (lowP on [] false) n [0]), ([] : List Int))] = [(0, [])] := rfl
  have e5 : (img (fun x : OS => some x.1) (List.take 0 [(((0 : Int), clo a.edges (lowP on [] false) n [0]), ([] : List Int))])).length = 0 := rfl
  rw [e, e5]
theorem any_find {α : Type} (p : α → Bool) : ∀ l : List α, l.any p = (l.find? p).isSome
  | [] => rfl
  | x :: r => by
    rw [List.any_cons, List.find?_cons, any_find p r]
    cases p x <;> rfl
/-- CONSISTENT IS WHAT THE LAW SAYS. -/
theorem cs_eq {a : Aut} {n : Nat} (h : gAut a n) (hn : n ≤ 5) (on un : List Int) : csO a on un n (csR a on un n) = csL a on un n (prsR a on n) := by
  by_cases hn0 : n = 0
  · unfold csR prsR
    rw [if_pos hn0, if_pos hn0]
    rfl
  have hB0 : bOk (intsV n) [((0 : Int), ([] : List Int))] := bOk_one (mem_intsV.2 (by omega))
  have hVl := intsV_len n
  have hbad : ∀ s, badC a on un n s = (csK a on un n s (keptR a on)).isSome := fun s => by
    rw [csK_eq h]
    unfold badC
    rw [any_find]
  rw [csL_find]
  unfold csR
  rw [if_neg hn0, bsr_find (V := intsV n) (N := 4096) (evC_in h) (by omega) 4096 0 _ rfl (by simp) hB0 (by simp), sts_img h hn hn0 on, img_find]
  have e : (prsR a on n).find? (fun z => optB (fun s => badC a on un n s) (some z.1.1)) = (prsR a on n).find? fun z => (csK a on un n z.1.1 (keptR a on)).isSome := find?_congr' fun z _ => hbad z.1.1
  rw [e]
  cases hf : (prsR a on n).find? fun z => (csK a on un n z.1.1 (keptR a on)).isSome with
  | none => rfl
  | some z =>
    show (z.2, (a.alpha.find? fun ev => conR a on un n z.1.1 ev).getD 0, false) = (z.2, (csK a on un n z.1.1 (keptR a on)).getD 0, false)
    rw [csK_eq h]
end Go.AI


/- Plain: Refutes and Contradicts are what the law says. -/
namespace Go.AI
end Go.AI


/- Plain: the projections onto all events and onto none. -/
namespace Go.AI
theorem nolow_all {a : Aut} {n : Nat} (h : gAut a n) : ∀ e ∈ a.edges, lowP a.alpha [] false e.2.1 = false := fun e he => by
  have := h.ev e he
  simp [lowP, this]
theorem clo_single {es : List Edg} {p : Int → Bool} {n : Nat} {s : Int} (hes : ∀ x ∈ es, 0 ≤ x.2.2 ∧ x.2.2 < (n : Int)) (hno : ∀ e ∈ es, p e.2.1 = false) (hs : 0 ≤ s ∧ s < (n : Int)) : clo es p n [s] = [s] := by
  refine lt_ext (sortedBelow_lt _ _) (by simp) fun x => ?_
  rw [mem_clo hes]
  constructor
  · rintro ⟨_, h⟩
    cases h with
    | base h => exact h
    | step _ he hp => rw [hno _ he] at hp; cases hp
  · intro h
    rw [List.mem_singleton] at h
    subst h
    exact ⟨hs, .base (by simp)⟩
theorem all_run {a : Aut} {n : Nat} (h : gAut a n) : ∀ (w : List Int) (x y : OS), (0 ≤ x.1 ∧ x.1 < (n : Int)) → x.2 = [x.1] → runO a.edges a.alpha [] n x w = some y → (0 ≤ y.1 ∧ y.1 < (n : Int)) ∧ y.2 = [y.1]
  | [], x, y, hx, h1, hr => by
    simp only [runO, Option.some.injEq] at hr
    subst hr
    exact ⟨hx, h1⟩
  | ev :: w, x, y, hx, h1, hr => by
    have eO : runO a.edges a.alpha [] n x (ev :: w) = if stp3 a.edges x.1 ev < 0 then none else runO a.edges a.alpha [] n (nxO a.edges a.alpha [] n x ev) w := rfl
    rw [eO] at hr
    by_cases c : stp3 a.edges x.1 ev < 0
    · rw [if_pos c] at hr; cases hr
    rw [if_neg c] at hr
    have hin : 0 ≤ stp3 a.edges x.1 ev ∧ stp3 a.edges x.1 ev < (n : Int) := by
      rcases stp3_b (n := (n : Int)) (es := a.edges) (s := x.1) (ev := ev) h.to with h2 | h2
      · rw [h2] at c; exact absurd (by decide) c
      · exact h2
    have hex : ∃ e ∈ a.edges, e.1 = x.1 ∧ e.2.1 = ev := by
      by_cases c2 : ∃ e ∈ a.edges, e.1 = x.1 ∧ e.2.1 = ev
      · exact c2
      · rw [stp3_no fun e he hc => c2 ⟨e, he, hc⟩] at hin
        exact absurd hin.1 (by decide)
    obtain ⟨e, he, e1, e2⟩ := hex
    have hal : ev ∈ a.alpha := by have := h.ev e he; rw [e2] at this; exact this
    refine all_run h w _ y hin ?_ hr
    show (if ev ∈ a.alpha then nxt a.edges (lowP a.alpha [] false) n x.2 ev else x.2) = [stp3 a.edges x.1 ev]
    rw [if_pos hal, h1]
    have hc : clo a.edges (lowP a.alpha [] false) n (tgtE a.edges [x.1] ev) = clo a.edges (lowP a.alpha [] false) n [stp3 a.edges x.1 ev] := by
      refine clo_congr h.to (fun _ _ => rfl) fun z => ?_
      rw [mem_tgtE, List.mem_singleton]
      constructor
      · rintro ⟨e', he', g1, g2, g3⟩
        rw [List.mem_singleton] at g1
        have := stp3_of h.pw he'
        rw [g1, g2, g3] at this
        exact this.symm
      · intro hz
        have := stp3_of h.pw he
        rw [e1, e2] at this
        exact ⟨e, he, by rw [e1]; simp, e2, by rw [hz, this]⟩
    unfold nxt
    rw [hc, clo_single h.to (nolow_all h) hin]
theorem mis_same (a : Aut) (on A : List Int) (n : Nat) (hn : n ≤ 5) (hA : A ∈ subs n) : misR a on n A A = none := by
  cases hm : misR a on n A A with
  | none => rfl
  | some t =>
    obtain ⟨_, h2, _⟩ := mis_run hn hA hA hm
    unfold badM at h2
    simp at h2
theorem all_obs {a : Aut} {n : Nat} (h : gAut a n) (hn : n ≤ 5) : obL a a.alpha n (prsR a a.alpha n) = ([], [], true) := by
  rw [obL_find, List.find?_eq_none.2]
  · rfl
  · intro z hz
    obtain ⟨hn0, hr⟩ := prs_run a.alpha hz
    have h0 : (0 : Int) ≤ 0 ∧ (0 : Int) < (n : Int) := by omega
    obtain ⟨h1, h2⟩ := all_run h z.2 _ z.1 h0 (clo_single h.to (nolow_all h) h0) hr
    rw [h2, clo_single h.to (nolow_all h) h1]
    have hA : [z.1.1] ∈ subs n := by
      rw [← clo_single h.to (nolow_all h) h1]
      exact sorted_subs _ _
    rw [mis_same a a.alpha _ n hn hA]
    simp
theorem all_cs {a : Aut} {n : Nat} (h : gAut a n) (un : List Int) : csL a a.alpha un n (prsR a a.alpha n) = ([], -1, true) := by
  rw [csL_find, List.find?_eq_none.2]
  · rfl
  · intro z _
    have e : csK a a.alpha un n z.1.1 (keptR a a.alpha) = none := by
      rw [csK_find, List.find?_eq_none]
      intro ev _
      have hc : clo a.edges (lowP a.alpha un true) n [z.1.1] = clo a.edges (lowP a.alpha [] false) n [z.1.1] := clo_congr h.to (fun e he => by
        have := h.ev e he
        simp [lowP, this]) fun _ => Iff.rfl
      unfold ctrR
      rw [hc]
      simp
    rw [e]
    simp
/- Onto none. -/
section
variable {S : Type} [DecidableEq S]
theorem bfull_closed {V : List S} {nx : S → Int → S} {ok : S → Bool} {evs : S → List Int} (hv : ∀ x ∈ V, ∀ ev ∈ evs x, ok (nx x ev) = true → nx x ev ∈ V) {N : Nat} (hN : V.length < N) : ∀ (f i : Nat) (l : List (S × List Int)), f + i = N → i ≤ l.length → bOk V l →
    (∀ z ∈ l.take i, ∀ ev ∈ evs z.1, ok (nx z.1 ev) = true → ∃ w ∈ l, w.1 = nx z.1 ev) → ∀ z ∈ bfull nx ok evs f i l, ∀ ev ∈ evs z.1, ok (nx z.1 ev) = true → ∃ w ∈ bfull nx ok evs f i l, w.1 = nx z.1 ev
  | 0, i, l, hf, hi, h, _ => by
    have := bOk_len h
    omega
  | f + 1, i, l, hf, hi, h, hc => by
    simp only [bfull]
    cases hg : l[i]? with
    | none =>
      have : l.length ≤ i := by
        rcases Nat.lt_or_ge i l.length with h1 | h1
        · rw [List.getElem?_eq_getElem h1] at hg; cases hg
        · exact h1
      rw [List.take_of_length_le this] at hc
      exact hc
    | some x =>
      have hlt : i < l.length := (List.getElem?_eq_some_iff.1 hg).1
      have hx : x.1 ∈ V := h.el x (List.mem_of_getElem? hg)
      have hp := bvis_pre nx ok x (evs x.1) l
      obtain ⟨r, hr⟩ := hp
      have htk : (bvis nx ok x (evs x.1) l).take (i + 1) = l.take i ++ [x] := by
        rw [← hr, List.take_append_of_le_length (by omega), List.take_add_one, hg]; rfl
      refine bfull_closed hv hN f (i + 1) _ (by omega) (by rw [← hr, List.length_append]; omega) (bvis_ok (hv x.1 hx) h hg) fun z hz ev he c => ?_
      rw [htk, List.mem_append, List.mem_singleton] at hz
      rcases hz with hz | rfl
      · obtain ⟨w, hw, e⟩ := hc z hz ev he c
        exact ⟨w, (bvis_pre nx ok x (evs x.1) l).subset hw, e⟩
      · exact bvis_has he c
end
theorem kept_nil (a : Aut) : keptR a [] = [] := by simp [keptR]
theorem mis_none (a : Aut) (A B : List Int) (n : Nat) : (misR a [] n A B).isSome = badM a A B := by
  have e3 : ∀ f, bsr (stepP a.edges (lowP [] [] false) n) okX (fun _ => keptR a []) (fun y => badM a y.1 y.2) (f + 1 + 1) 0 [((A, B), [])] = if badM a A B = true then some ((A, B), []) else none := fun f => by
    have g0 : [((A, B), ([] : List Int))][0]? = some ((A, B), []) := rfl
    have g1 : [((A, B), ([] : List Int))][0 + 1]? = none := rfl
    rw [bsr, g0]
    simp only
    by_cases c : badM a A B = true
    · rw [if_pos c, if_pos c]
    · rw [if_neg c, if_neg c, kept_nil]
      simp only [bvis]
      rw [bsr, g1]
  have e3 := e3 4094
  unfold misR
  rw [e3]
  by_cases c : badM a A B = true
  · rw [if_pos c, c]; rfl
  · rw [if_neg c]
    cases hb : badM a A B with
    | true => exact absurd hb c
    | false => rfl
theorem none_run {a : Aut} {n : Nat} : ∀ (w : List Int) (x y : OS), runO a.edges [] [] n x w = some y → y.2 = x.2
  | [], x, y, hr => by
    simp only [runO, Option.some.injEq] at hr
    subst hr
    rfl
  | ev :: w, x, y, hr => by
    have eO : runO a.edges [] [] n x (ev :: w) = if stp3 a.edges x.1 ev < 0 then none else runO a.edges [] [] n (nxO a.edges [] [] n x ev) w := rfl
    rw [eO] at hr
    by_cases c : stp3 a.edges x.1 ev < 0
    · rw [if_pos c] at hr; cases hr
    rw [if_neg c] at hr
    rw [none_run w _ y hr]
    rfl
/-- The states, all reached. -/
def accA (a : Aut) (n : Nat) : Prop := ∀ i : Int, 0 ≤ i ∧ i < (n : Int) → Rc a.edges (fun _ => true) [0] i
theorem prs_all {a : Aut} {n : Nat} (h : gAut a n) (hn : n ≤ 5) (hn0 : n ≠ 0) (hac : accA a n) (on : List Int) (i : Int) (hi : 0 ≤ i ∧ i < (n : Int)) : ∃ z ∈ prsR a on n, z.1.1 = i := by
  have hVl := statesV_len hn
  have hB0 : bOk (statesV n) [(((0 : Int), clo a.edges (lowP on [] false) n [0]), ([] : List Int))] := bOk_one (mem_statesV.2 ⟨by simp only; omega, sorted_subs _ _⟩)
  have hcl := bfull_closed (V := statesV n) (nx := nxO a.edges on [] n) (ok := fun _ => true) (evs := evO a.edges) (N := 4096) (evO_in h on) (by omega) 4096 0 _ rfl (by simp) hB0 (by simp)
  rw [prs_eq h hn hn0 on] at hcl
  have hin : ∀ z ∈ prsR a on n, z.1 ∈ statesV n := (prs_bOk h on).el
  have hpre := bfull_pre (nxO a.edges on [] n) (fun _ => true) (evO a.edges) 4096 0 [((0, clo a.edges (lowP on [] false) n [0]), [])]
  rw [prs_eq h hn hn0 on] at hpre
  have key : ∀ i, Rc a.edges (fun _ => true) [0] i → ∃ z ∈ prsR a on n, z.1.1 = i := by
    intro i hr
    induction hr with
    | base hx =>
      rw [List.mem_singleton] at hx
      subst hx
      exact ⟨((0, clo a.edges (lowP on [] false) n [0]), []), hpre.subset (List.mem_singleton.2 rfl), rfl⟩
    | @step e _ he _ ih =>
      obtain ⟨z, hz, hz1⟩ := ih
      have hmem : e.2.1 ∈ evO a.edges z.1 := by
        unfold evO
        exact List.mem_map.2 ⟨e, List.mem_filter.2 ⟨he, by simp [hz1]⟩, rfl⟩
      obtain ⟨w, hw, hw1⟩ := hcl z hz e.2.1 hmem rfl
      refine ⟨w, hw, ?_⟩
      rw [hw1]
      show stp3 a.edges z.1.1 e.2.1 = e.2.2
      rw [hz1]
      exact stp3_of h.pw he
  exact key i (hac i hi)
def mrk (a : Aut) (n : Nat) (i : Int) : Bool := marksR a (clo a.edges (lowP [] [] false) n [i])
theorem none_obs {a : Aut} {n : Nat} (h : gAut a n) (hn : n ≤ 5) (hac : accA a n) : (obL a [] n (prsR a [] n)).2.2 = (!((List.range n).any fun (i : Nat) => mrk a n i) || (List.range n).all fun (i : Nat) => mrk a n i) := by
  by_cases hn0 : n = 0
  · subst hn0
    rfl
  have hz2 : ∀ z ∈ prsR a [] n, z.1.2 = clo a.edges (lowP [] [] false) n [0] := fun z hz => none_run _ _ _ (prs_run [] hz).2
  have hbad : ∀ z ∈ prsR a [] n, (misR a [] n z.1.2 (clo a.edges (lowP [] [] false) n [z.1.1])).isSome = (mrk a n 0 && !mrk a n z.1.1) := fun z hz => by
    rw [mis_none, hz2 z hz]
    rfl
  have hsub : ∀ i : Int, 0 ≤ i ∧ i < (n : Int) → mrk a n i = true → mrk a n 0 = true := fun i hi hm => by
    unfold mrk marksR at hm ⊢
    obtain ⟨x, hx, hx2⟩ := List.any_eq_true.1 hm
    refine List.any_eq_true.2 ⟨x, ?_, hx2⟩
    rw [mem_clo h.to] at hx ⊢
    refine ⟨hx.1, Rc.mono (fun _ _ hp => hp) (fun y hy => ?_) hx.2⟩
    rw [List.mem_singleton] at hy
    subst hy
    exact Rc.mono (fun _ _ _ => by simp [lowP]) (fun y hy => .base hy) (hac y hi)
  rw [obL_find]
  cases hf : (prsR a [] n).find? fun z => (misR a [] n z.1.2 (clo a.edges (lowP [] [] false) n [z.1.1])).isSome with
  | some z =>
    have hm := List.mem_of_find?_eq_some hf
    have hs := List.find?_some hf
    rw [hbad z hm] at hs
    simp only [Bool.and_eq_true, Bool.not_eq_true'] at hs
    have hin := (mem_statesV.1 ((prs_bOk h []).el z hm)).1
    have h1 : ((List.range n).any fun (i : Nat) => mrk a n i) = true := List.any_eq_true.2 ⟨0, List.mem_range.2 (by omega), hs.1⟩
    have h2 : ((List.range n).all fun (i : Nat) => mrk a n i) = false := by
      cases hc : (List.range n).all fun (i : Nat) => mrk a n i with
      | false => rfl
      | true =>
        have := List.all_eq_true.1 hc z.1.1.toNat (List.mem_range.2 (by omega))
        have e : ((z.1.1.toNat : Nat) : Int) = z.1.1 := by omega
        rw [e, hs.2] at this
        cases this
    rw [h1, h2]
    rfl
  | none =>
    show true = _
    symm
    cases h0 : mrk a n 0 with
    | false =>
      have h1 : ((List.range n).any fun (i : Nat) => mrk a n i) = false := by
        rw [List.any_eq_false]
        intro i hi hm
        have := hsub (i : Int) (by have := List.mem_range.1 hi; omega) hm
        rw [h0] at this
        cases this
      rw [h1]
      rfl
    | true =>
      have h2 : ((List.range n).all fun (i : Nat) => mrk a n i) = true := by
        rw [List.all_eq_true]
        intro i hi
        have hi := List.mem_range.1 hi
        obtain ⟨z, hz, e⟩ := prs_all h hn hn0 hac [] (i : Int) (by omega)
        have := List.find?_eq_none.1 hf z hz
        rw [hbad z hz, h0, e] at this
        simpa using this
      rw [h2]
      simp
end Go.AI


/- Plain: what is canonical is reached. -/
namespace Go.AI
/-- Each state but the first is found from an earlier one. -/
def frmOk (es : List Edg) (al out : List Int) : Prop := ∀ k, 0 < k → ∀ t, out[k]? = some t → ∃ i s ev, i < k ∧ out[i]? = some s ∧ ev ∈ al ∧ 0 ≤ stp3 es s ev ∧ stp3 es s ev = t
theorem frmOk_app {es : List Edg} {al out : List Int} (h : frmOk es al out) {i : Nat} {s ev : Int} (hi : out[i]? = some s) (he : ev ∈ al) (h0 : 0 ≤ stp3 es s ev) : frmOk es al (out ++ [stp3 es s ev]) := fun k hk t ht => by
  rcases Nat.lt_or_ge k out.length with hl | hl
  · rw [List.getElem?_append_left hl] at ht
    obtain ⟨j, u, v, h1, h2, h3⟩ := h k hk t ht
    exact ⟨j, u, v, h1, by rw [List.getElem?_append_left (by omega)]; exact h2, h3⟩
  · have hil : i < out.length := (List.getElem?_eq_some_iff.1 hi).1
    have hk2 : k = out.length := by
      have := (List.getElem?_eq_some_iff.1 ht).1
      rw [List.length_append, List.length_singleton] at this
      omega
    subst hk2
    rw [List.getElem?_append_right (Nat.le_refl _), Nat.sub_self] at ht
    have ht : stp3 es s ev = t := by simpa using ht
    exact ⟨i, s, ev, hil, by rw [List.getElem?_append_left hil]; exact hi, he, h0, ht⟩
theorem fvis_frm {es : List Edg} {al : List Int} {s : Int} {i : Nat} : ∀ {r out : List Int}, (∀ ev ∈ r, ev ∈ al) → out[i]? = some s → frmOk es al out → frmOk es al (fvis es s r out)
  | [], out, _, _, h => h
  | ev :: r, out, hr, hi, h => by
    simp only [fvis]
    have hil : i < out.length := (List.getElem?_eq_some_iff.1 hi).1
    split
    · rename_i c
      exact fvis_frm (i := i) (fun e he => hr e (by simp [he])) (by rw [List.getElem?_append_left hil]; exact hi) (frmOk_app h hi (hr ev (by simp)) c.1)
    · exact fvis_frm (i := i) (fun e he => hr e (by simp [he])) hi h
theorem fndL_frm {es : List Edg} {al : List Int} : ∀ (f i : Nat) (out : List Int), frmOk es al out → frmOk es al (fndL es al f i out)
  | 0, _, out, h => h
  | f + 1, i, out, h => by
    simp only [fndL]
    cases hg : out[i]? with
    | none => exact h
    | some s => exact fndL_frm f (i + 1) _ (fvis_frm (fun _ h => h) hg h)
theorem idxI_nth : ∀ {l : List Int} {k i : Nat} {t : Int}, l.Nodup → l[k]? = some t → idxI t l i = ((i + k : Nat) : Int)
  | [], _, _, _, _, h => by simp at h
  | y :: r, 0, i, t, hd, h => by
    have h : y = t := by simpa using h
    subst h
    simp [idxI]
  | y :: r, k + 1, i, t, hd, h => by
    have h : r[k]? = some t := by simpa using h
    have hm : t ∈ r := List.mem_of_getElem? h
    rw [List.nodup_cons] at hd
    have hne : y ≠ t := fun e => hd.1 (e ▸ hm)
    have := idxI_nth (i := i + 1) hd.2 h
    simp only [idxI]
    first
      | (rw [if_neg hne, this]; congr 1; omega)
      | (rw [if_neg (Ne.symm hne), this]; congr 1; omega)
      | (simp only [hne, if_false, this]; congr 1; omega)
theorem can_acc {a : Aut} {n : Nat} (ha : autOk a) (hst : a.states = n) (hn : 1 ≤ n ∧ n ≤ 4096) : accA (canR a (foundR a)) (foundR a).length := by
  obtain ⟨c1, c2, c3, c4⟩ := chk_parts ha.chk
  obtain ⟨_, eb, _⟩ := chkEds_sorted c4
  have hes : ∀ x ∈ a.edges, 0 ≤ x.2.2 ∧ x.2.2 < (n : Int) := fun x hx => by have := (eb x hx).2.1; rw [hst] at this; exact this
  obtain ⟨f1, _, _⟩ := found_ok hst hn hes
  have hfr : frmOk a.edges a.alpha (foundR a) := fndL_frm 4097 0 [0] (fun k hk t ht => by
    cases k with
    | zero => omega
    | succ k => simp at ht)
  generalize foundR a = F at *
  have key : ∀ k, k < F.length → Rc (canR a F).edges (fun _ => true) [0] (k : Int) := by
    intro k
    induction k using Nat.strongRecOn with
    | ind k ih =>
      intro hk
      by_cases h0 : k = 0
      · subst h0
        exact .base (by simp)
      · obtain ⟨i, s, ev, h1, h2, h3, h4, h5⟩ := hfr k (by omega) _ (List.getElem?_eq_getElem hk)
        have hi := ih i h1 (by omega)
        have hmem : ((i : Int), ev, (k : Int)) ∈ (canR a F).edges := by
          show _ ∈ cEd a.edges F a.alpha F.length
          unfold cEd
          refine List.mem_flatMap.2 ⟨i, List.mem_range.2 (by omega), ?_⟩
          rw [h2]
          refine List.mem_filterMap.2 ⟨ev, h3, ?_⟩
          unfold cOf
          rw [if_pos h4, h5, idxI_nth f1.nd (List.getElem?_eq_getElem hk)]
          simp
        exact .step (e := ((i : Int), ev, (k : Int))) hi hmem rfl
  intro i hi
  have := key i.toNat (by omega)
  have e : ((i.toNat : Nat) : Int) = i := by omega
  rwa [e] at this
theorem mkA_acc {s : List Int} {gs gm : Int} {gt : Nat → Int} (hs : s.Pairwise (· < ·)) (hr : ∀ x ∈ s, 0 ≤ x ∧ x < 32) (hsl : s.length ≤ 5) (hg : ∀ j, 0 ≤ gt j ∧ gt j ≤ 255) :
    (autOk (rawA s gs gm gt) ∧ (foundR (rawA s gs gm gt)).length ≤ 4096) ∧ (∃ n, n ≤ 5 ∧ gAut (mkA s gs gm gt) n ∧ accA (mkA s gs gm gt) n) ∧ (mkA s gs gm gt).alpha = s := by
  have hok := raw_ok (gs := gs) (gm := gm) hs hr hsl hg
  obtain ⟨n1, n5⟩ := rawN_b gs
  obtain ⟨h1, h2⟩ := can_ok hok (n := rawN gs) rfl ⟨n1, by omega⟩
  have h3 := can_acc hok (n := rawN gs) rfl ⟨n1, by omega⟩
  refine ⟨⟨hok, by omega⟩, ?_, ?_⟩
  · unfold mkA
    split
    · refine ⟨0, by omega, ⟨rfl, ⟨by simp, by simp only; omega, by simp⟩, chkA_of (checkSet_of hs hr (fun y e => by cases e)) ⟨by simp, by simp⟩ rfl rfl⟩, fun i hi => by omega⟩
    · exact ⟨_, by omega, h1, h3⟩
  · unfold mkA
    split <;> rfl
end Go.AI


/- Law Consistent. -/
namespace Go.AI
open Go.Proofs
set_option maxRecDepth 20000
end Go.AI


/- Law All. -/
namespace Go.AI
open Go.Proofs
set_option maxRecDepth 20000
theorem nil2 {g : Nat} {tab : Obj} {P : Program} {f : FuncId} {x : D} {O O' : List Heap} {res : D} {Hr : Heap} (h : ASpecT g tab P f [x, ints []] O res Hr O') : ASpecT g tab P f [x, .i (.v (.slice none 0 0))] O res Hr O' :=
  fun E K ρ w vs hw ht hr => h E K ρ w vs hw ht ((CoDL.cons (CoD.refl _) (.cons (coD_i coI_nil) .nil)).rep hr)
theorem clo_alpha {a : Aut} {n : Nat} (h : gAut a n) (l : List Int) : clo a.edges (fun x => decide (x ∈ a.alpha)) n l = clo a.edges (lowP [] [] false) n l :=
  clo_congr h.to (fun e he => by
    have := h.ev e he
    simp [lowP, this]) fun _ => Iff.rfl
set_option maxHeartbeats 16000000 in
theorem allL4 {g : Nat} (hg : IsTab g) {ty : TypeId} {fr : Nat × Nat} (O : List Heap) (b0 b1 gs gm : Int) (gt : Nat → Int) (hgr : grOkB gs gt) : ASpecT g (ptab ty fr) Tryz.prog 4 [.agg [u8D b0, u8D b1], .agg (grC gs gm gt)] O (bb true) [] O := by
  have hkn := fun O => known11 hg (ty := ty) (fr := fr) O
  obtain ⟨e1, e2, e3⟩ := evs_ok b0
  obtain ⟨hraw, ⟨n, hn, hga, hac⟩, hal⟩ := mkA_acc (gs := gs) (gm := gm) e1 e2 e3 hgr.2
  have hev := fun O b => events13 O b
  have hmk := fun O => make12 O (evsOf b0) gs gm gt e3 hgr.1 hraw.1 hraw.2
  have hul : (evsOf b1).length ≤ max63 := by have := (evs_ok b1).2.2; simp only [max63]; omega
  have hc1 := (chk_parts hga.c).1
  have hob1 := opE_good hga.c hc1 (show checkSet 32 [] none = 0 from rfl)
  have hob2 := opE_good hga.c hc1 (evs_chk b1)
  have hob3 := opE_good hga.c (show checkSet 32 [] none = 0 from rfl) (show checkSet 32 [] none = 0 from rfl)
  generalize mkA (evsOf b0) gs gm gt = a at *
  have hsm := hga.sm
  have hst := hga.st
  have hall : a.alpha.length ≤ max63 := by have := hsm.al; simp only [max63]; omega
  have ho1 := fun O => observer17 hg (ty := ty) (fr := fr) O a a.alpha n hst hn hsm hall hob1
  rw [obs_eq hga hn, all_obs hga hn] at ho1
  have ho2 := fun O => consistent18 O a a.alpha (evsOf b1) n hst (by omega) hsm hall hul hob2
  rw [cs_eq hga hn, all_cs hga] at ho2
  have ho3 := fun O => nil2 (observer17 hg (ty := ty) (fr := fr) O a [] n hst hn hsm (by simp) hob3)
  rw [obs_eq hga hn] at ho3
  have hz := none_obs hga hn hac
  generalize obL a [] n (prsR a [] n) = R at *
  have hre := fun O (i : Int) => reach20 O a [i] a.alpha n hst (by omega) hsm.ed hga.to (by simp) hall
  have hre : ∀ O (i : Int), ASpec Tryz.prog 20 [autD a, ints [i], ints a.alpha] O (ints (clo a.edges (lowP [] [] false) n [i])) [] O := fun O i => by
    have := hre O i
    rwa [clo_alpha hga] at this
  have hmar := fun O (i : Int) => marked19 O a (clo a.edges (lowP [] [] false) n [i]) (by have := hsm.mkd; simp only [max63]; omega) (Nat.le_trans (clo_len _ _ _ _) (by simp only [max63]; omega))
  have hm : ∀ i, mrk a n i = ((clo a.edges (lowP [] [] false) n [i]).any fun x => decide (x ∈ a.marked)) := fun _ => rfl
  have hev0 := fun O => hev O b0
  have hev1 := fun O => hev O b1
  generalize evsOf b0 = s0 at *
  generalize evsOf b1 = un at *
  obtain ⟨rw, rt, z⟩ := R
  simp only at hz ho3
  clear e1 e2 e3 hraw hal hev hga hac hob1 hob2 hob3 hc1
  refine aspecT_stop [] Tk Tryz.func4 rfl Tryz.call4 Tryz.ntmps4 (Nat.le_of_ble_eq_true rfl) fun E hE => ?_
  refine g_run Tk Tryz.func4 ?_
  refine g_callT Tk Tryz.func4 hE (hkn _) rfl rfl rfl rfl rfl rfl ?_
  repeat (first | refine g_cnd Tk Tryz.func4 rfl (fun _ => ?_) (fun h => absurd h (by decide)) | refine g_know Tk Tryz.func4 rfl (fun _ => ?_) (fun h => absurd h (by decide)) | refine s_know Tk (fun _ => ?_) (fun h => absurd h (by decide)) | refine g_cnd Tk Tryz.func4 rfl (fun h => absurd h (by decide)) (fun _ => ?_) | refine g_know Tk Tryz.func4 rfl (fun h => absurd h (by decide)) (fun _ => ?_) | refine s_know Tk (fun h => absurd h (by decide)) (fun _ => ?_) | refine g_cnd Tk Tryz.func4 rfl (fun _ => ?_) (fun h => absurd (show true = false from h) (by decide)) | refine g_know Tk Tryz.func4 rfl (fun _ => ?_) (fun h => absurd (show true = false from h) (by decide)) | refine s_know Tk (fun _ => ?_) (fun h => absurd (show true = false from h) (by decide)) | refine g_cnd Tk Tryz.func4 rfl (fun h => absurd (show false = true from h) (by decide)) (fun _ => ?_) | refine g_know Tk Tryz.func4 rfl (fun h => absurd (show false = true from h) (by decide)) (fun _ => ?_) | refine s_know Tk (fun h => absurd (show false = true from h) (by decide)) (fun _ => ?_))
  refine g_drawn Tk Tryz.func4 mixedT rfl ?_
  first | refine g_need Tk Tryz.func4 (by decide) ?_ | refine s_need Tk (by decide) ?_
  first | refine g_call Tk Tryz.func4 (hev0 _) rfl rfl rfl rfl rfl ?_ | refine s_callq Tk (fun _ => hev0 _) rfl rfl rfl ?_
  first | refine g_call Tk Tryz.func4 (hmk _) rfl rfl rfl rfl rfl ?_ | refine s_callq Tk (fun _ => hmk _) rfl rfl rfl ?_
  first | refine g_need Tk Tryz.func4 (by decide) ?_ | refine s_need Tk (by decide) ?_
  first | refine g_call Tk Tryz.func4 (hev1 _) rfl rfl rfl rfl rfl ?_ | refine s_callq Tk (fun _ => hev1 _) rfl rfl rfl ?_
  refine s_old Tk ?_
  refine d_mod Tk (p := ⟨[], [(5, .box (autC a))], none⟩) rfl rfl rfl ?_
  refine d_done Tk Tryz.func4 (by kernel_rfl) (GM.h ?_)
  refine g_callT Tk Tryz.func4 hE (ho1 _) rfl rfl rfl rfl rfl rfl ?_
  first | refine g_call Tk Tryz.func4 (ho2 _) rfl rfl rfl rfl rfl ?_ | refine s_callq Tk (fun _ => ho2 _) rfl rfl rfl ?_
  refine g_callT Tk Tryz.func4 hE (ho3 _) rfl rfl rfl rfl rfl rfl ?_
  repeat (first | refine g_cnd Tk Tryz.func4 rfl (fun _ => ?_) (fun h => absurd h (by decide)) | refine g_know Tk Tryz.func4 rfl (fun _ => ?_) (fun h => absurd h (by decide)) | refine s_know Tk (fun _ => ?_) (fun h => absurd h (by decide)) | refine g_cnd Tk Tryz.func4 rfl (fun h => absurd h (by decide)) (fun _ => ?_) | refine g_know Tk Tryz.func4 rfl (fun h => absurd h (by decide)) (fun _ => ?_) | refine s_know Tk (fun h => absurd h (by decide)) (fun _ => ?_) | refine g_cnd Tk Tryz.func4 rfl (fun _ => ?_) (fun h => absurd (show true = false from h) (by decide)) | refine g_know Tk Tryz.func4 rfl (fun _ => ?_) (fun h => absurd (show true = false from h) (by decide)) | refine s_know Tk (fun _ => ?_) (fun h => absurd (show true = false from h) (by decide)) | refine g_cnd Tk Tryz.func4 rfl (fun h => absurd (show false = true from h) (by decide)) (fun _ => ?_) | refine g_know Tk Tryz.func4 rfl (fun h => absurd (show false = true from h) (by decide)) (fun _ => ?_) | refine s_know Tk (fun h => absurd (show false = true from h) (by decide)) (fun _ => ?_))
  refine g_loop ?_
  refine rch_loop2 (fun x : Nat × Bool × Bool => [(5, .own 0 5 0 0), (17, bb z), (19, bb x.2.1), (20, bb x.2.2), (21, ii x.1)]) (fun _ => [(5, .box (autC a))]) (fun _ => O) 106
    (fun x => x.1 ≤ n ∧ (x.2.1 || ((List.range n).drop x.1).any fun (i : Nat) => mrk a n i) = ((List.range n).any fun (i : Nat) => mrk a n i) ∧ (x.2.2 && ((List.range n).drop x.1).all fun (i : Nat) => mrk a n i) = ((List.range n).all fun (i : Nat) => mrk a n i)) (fun x => n - x.1) (0, false, true) ⟨Nat.zero_le _, by simp, by simp⟩ ⟨rfl, rfl, rfl, rfl, rfl, trivial⟩ rfl ⟨rfl, trivial⟩ rfl rfl ?_
  rintro ⟨i, sm, ev⟩ ⟨hi, hso, hee⟩ ih
  simp only at hi hso hee
  have hj1 : ii (IntKind.i64.wrap ((i : Int) + 1)) = ii ((i + 1 : Nat) : Int) := congrArg ii (wsucc (n := 1000001) (by omega) (by decide))
  refine g_run Tk Tryz.func4 ?_
  first | refine g_cnd Tk Tryz.func4 rfl (fun g1 => ?_) (fun g1 => ?_) | refine g_know Tk Tryz.func4 rfl (fun g1 => ?_) (fun g1 => ?_) | refine s_know Tk (fun g1 => ?_) (fun g1 => ?_)
  · have g1 : (i : Int) < a.states := of_decide_eq_true g1
    have g3 : i < n := by omega
    have hd : (List.range n).drop i = i :: (List.range n).drop (i + 1) := by rw [List.drop_eq_getElem_cons (by simpa using g3), List.getElem_range]
    rw [hd, List.any_cons] at hso
    rw [hd, List.all_cons] at hee
    have hr' := fun O => hre O (i : Int)
    have hm' := fun O => hmar O (i : Int)
    rw [← hm] at hm'
    generalize mrk a n (i : Int) = m at *
    generalize clo a.edges (lowP [] [] false) n [(i : Int)] = C at *
    refine g_drawn Tk Tryz.func4 mixedT rfl ?_
    first | refine g_call Tk Tryz.func4 (hr' _) rfl rfl rfl rfl rfl ?_ | refine s_callq Tk (fun _ => hr' _) rfl rfl rfl ?_
    first | refine g_call Tk Tryz.func4 (hm' _) rfl rfl rfl rfl rfl ?_ | refine s_callq Tk (fun _ => hm' _) rfl rfl rfl ?_
    refine e_done Tk Tryz.func4 (by kernel_rfl) ?_
    first | refine g_cnd Tk Tryz.func4 rfl (fun c1 => ?_) (fun c1 => ?_) | refine g_know Tk Tryz.func4 rfl (fun c1 => ?_) (fun c1 => ?_) | refine s_know Tk (fun c1 => ?_) (fun c1 => ?_)
    · have c1 : sm = true := c1
      subst c1
      first | refine g_cnd Tk Tryz.func4 rfl (fun c2 => ?_) (fun c2 => ?_) | refine g_know Tk Tryz.func4 rfl (fun c2 => ?_) (fun c2 => ?_) | refine s_know Tk (fun c2 => ?_) (fun c2 => ?_)
      · have c2 : ev = true := c2
        subst c2
        refine g_loop ?_
        exact ih (i + 1, true, m) _ _ ⟨g3, by simpa using hso, by simpa using hee⟩ (by simp only; omega) ⟨rfl, rfl, rfl, rfl, hj1, trivial⟩ rfl ⟨rfl, trivial⟩ rfl rfl
      · have c2 : ev = false := c2
        subst c2
        refine g_loop ?_
        exact ih (i + 1, true, false) _ _ ⟨g3, by simpa using hso, by simpa using hee⟩ (by simp only; omega) ⟨rfl, rfl, rfl, rfl, hj1, trivial⟩ rfl ⟨rfl, trivial⟩ rfl rfl
    · have c1 : sm = false := c1
      subst c1
      first | refine g_cnd Tk Tryz.func4 rfl (fun c2 => ?_) (fun c2 => ?_) | refine g_know Tk Tryz.func4 rfl (fun c2 => ?_) (fun c2 => ?_) | refine s_know Tk (fun c2 => ?_) (fun c2 => ?_)
      · have c2 : ev = true := c2
        subst c2
        refine g_loop ?_
        exact ih (i + 1, m, m) _ _ ⟨g3, by simpa using hso, by simpa using hee⟩ (by simp only; omega) ⟨rfl, rfl, rfl, rfl, hj1, trivial⟩ rfl ⟨rfl, trivial⟩ rfl rfl
      · have c2 : ev = false := c2
        subst c2
        refine g_loop ?_
        exact ih (i + 1, m, false) _ _ ⟨g3, by simpa using hso, by simpa using hee⟩ (by simp only; omega) ⟨rfl, rfl, rfl, rfl, hj1, trivial⟩ rfl ⟨rfl, trivial⟩ rfl rfl
  · have g1 : ¬ (i : Int) < a.states := of_decide_eq_false g1
    have g3 : n ≤ i := by omega
    have hd : (List.range n).drop i = [] := List.drop_of_length_le (by simpa using g3)
    rw [hd, List.any_nil, Bool.or_false] at hso
    rw [hd, List.all_nil, Bool.and_true] at hee
    rw [← hso, ← hee] at hz
    first | refine g_cnd Tk Tryz.func4 rfl (fun c1 => ?_) (fun c1 => ?_) | refine g_know Tk Tryz.func4 rfl (fun c1 => ?_) (fun c1 => ?_) | refine s_know Tk (fun c1 => ?_) (fun c1 => ?_)
    · have c1 : sm = false := notT c1
      subst c1
      refine g_ret Tk (r := bb (z == true)) rfl rfl rfl trivial rfl rfl ?_
      rw [hz]
      simp
    · have c1 : sm = true := notF c1
      subst c1
      refine g_ret Tk (r := bb (z == ev)) rfl rfl rfl trivial rfl rfl ?_
      rw [hz]
      simp
end Go.AI
