/- The layer of abstract runs, part 41. -/
import Derived.Test.YtonnakcgopcfnaaDoorJuniperZN
import Derived.KernelRfl
set_option linter.unusedSimpArgs false
set_option linter.unusedVariables false
set_option linter.all false

/- Unfolding: the states that are found from an initial one on, and their edges, in plain data. -/
namespace Go.AI
structure Unf (σ : Type) where
  sts : List σ
  mkl : List Int
  eds : List (Int × Int × Int)
/-- The number of states that edges in order of discovery know. -/
def kOf : List (Int × Int × Int) → Nat → Option Nat
  | [], k => some k
  | e :: r, k => if (0 ≤ e.1 ∧ e.1 < k) ∧ 0 ≤ e.2.2 ∧ e.2.2 ≤ k then kOf r (if e.2.2 = k then k + 1 else k) else none
theorem kOf_app : ∀ (l r : List (Int × Int × Int)) (k : Nat), kOf (l ++ r) k = (kOf l k).bind (kOf r)
  | [], r, k => rfl
  | e :: l, r, k => by
    simp only [List.cons_append, kOf]
    split
    · exact kOf_app l r _
    · rfl
section
variable {σ : Type} (eq : σ → σ → Bool) (lim : Bool) (step : σ → Int → σ × Bool × Int) (mkd : σ → Bool)
def uvisit (i : Nat) (s : σ) (ev : Int) (U : Unf σ) : Except Int (Unf σ) :=
  if (step s ev).2.2 ≠ 0 then .error (step s ev).2.2 else
  if (step s ev).2.1 = false then .ok U else
  if U.sts.findIdx (eq (step s ev).1) < U.sts.length then .ok { U with eds := U.eds ++ [((i : Int), ev, ((U.sts.findIdx (eq (step s ev).1) : Nat) : Int))] } else
  if lim = true ∧ U.sts.length = 4096 then .error 3 else
  .ok { sts := U.sts ++ [(step s ev).1], mkl := U.mkl, eds := U.eds ++ [((i : Int), ev, ((U.sts.findIdx (eq (step s ev).1) : Nat) : Int))] }
def uvisits (i : Nat) (s : σ) : List Int → Unf σ → Except Int (Unf σ)
  | [], U => .ok U
  | ev :: r, U => match uvisit eq lim step i s ev U with
    | .error e => .error e
    | .ok U' => uvisits i s r U'
def umark (i : Nat) (s : σ) (U : Unf σ) : Unf σ := if mkd s then { U with mkl := U.mkl ++ [(i : Int)] } else U
def uloop (alpha : List Int) : Nat → Nat → Unf σ → Except Int (Unf σ)
  | 0, _, U => .ok U
  | f + 1, i, U => match U.sts[i]? with
    | none => .ok U
    | some s => match uvisits eq lim step i s alpha (umark mkd i s U) with
      | .error e => .error e
      | .ok U' => uloop alpha f (i + 1) U'
def unf0 (first : σ) : Unf σ := ⟨[first], [], []⟩
def unfR (alpha : List Int) (first : σ) : Except Int (Unf σ) := uloop eq lim step mkd alpha 4097 0 (unf0 first)
theorem umark_sts (i : Nat) (s : σ) (U : Unf σ) : (umark mkd i s U).sts = U.sts ∧ (umark mkd i s U).eds = U.eds := by
  unfold umark; split <;> exact ⟨rfl, rfl⟩
end
theorem findIdx_congr {α : Type} {p q : α → Bool} : ∀ {l : List α}, (∀ x ∈ l, p x = q x) → l.findIdx p = l.findIdx q
  | [], _ => rfl
  | x :: r, h => by
    rw [List.findIdx_cons, List.findIdx_cons, h x (by simp), findIdx_congr (l := r) fun y hy => h y (by simp [hy])]
theorem findIdx_none {α : Type} {p : α → Bool} : ∀ {l : List α}, (∀ x ∈ l, p x = false) → l.findIdx p = l.length
  | [], _ => rfl
  | x :: r, h => by
    rw [List.findIdx_cons, h x (by simp), findIdx_none (l := r) fun y hy => h y (by simp [hy])]
    rfl
theorem findIdx_app {α : Type} {p : α → Bool} : ∀ {l : List α} (r : List α), (∃ x ∈ l, p x = true) → (l ++ r).findIdx p = l.findIdx p
  | [], _, h => by obtain ⟨x, hx, _⟩ := h; cases hx
  | x :: l, r, h => by
    rw [List.cons_append, List.findIdx_cons, List.findIdx_cons]
    cases hx : p x with
    | true => rfl
    | false =>
      rw [findIdx_app r]
      obtain ⟨y, hy, hp⟩ := h
      rcases List.mem_cons.1 hy with rfl | hy
      · rw [hx] at hp; cases hp
      · exact ⟨y, hy, hp⟩
theorem findIdx_lt {α : Type} {p : α → Bool} : ∀ {l : List α}, (∃ x ∈ l, p x = true) → l.findIdx p < l.length
  | [], h => by obtain ⟨x, hx, _⟩ := h; cases hx
  | x :: l, h => by
    rw [List.findIdx_cons]
    cases hx : p x with
    | true => exact Nat.zero_lt_succ _
    | false =>
      have := findIdx_lt (p := p) (l := l) (by
        obtain ⟨y, hy, hp⟩ := h
        rcases List.mem_cons.1 hy with rfl | hy
        · rw [hx] at hp; cases hp
        · exact ⟨y, hy, hp⟩)
      simp only [cond_false, List.length_cons]
      omega
theorem findIdx_le {α : Type} {p : α → Bool} : ∀ {l : List α}, l.findIdx p ≤ l.length
  | [] => Nat.le_refl _
  | x :: l => by
    have := findIdx_le (p := p) (l := l)
    rw [List.findIdx_cons]
    cases p x with
    | true => exact Nat.zero_le _
    | false => simp only [cond_false, List.length_cons]; omega
section
variable {σ : Type} [DecidableEq σ]
/-- Equality, as a test. -/
def eqB (a b : σ) : Bool := decide (a = b)
theorem idx_self {l : List σ} (hn : l.Nodup) {i : Nat} (h : i < l.length) : l.findIdx (eqB l[i]) = i := by
  induction l generalizing i with
  | nil => cases h
  | cons x r ih =>
    rw [List.nodup_cons] at hn
    rw [List.findIdx_cons]
    cases i with
    | zero => simp [eqB]
    | succ i =>
      have hi : i < r.length := by simpa using h
      have hne : r[i] ≠ x := fun e => hn.1 (e ▸ List.getElem_mem hi)
      have e1 : eqB ((x :: r)[i + 1]) x = false := by simp [eqB, hne]
      rw [e1]
      simp only [cond_false, List.getElem_cons_succ]
      rw [ih hn.2 hi]
variable (step : σ → Int → σ × Bool × Int) (mkd : σ → Bool)
/-- The edge by an event. -/
def eOf (sts : List σ) (i : Nat) (s : σ) (ev : Int) : Option (Int × Int × Int) := if (step s ev).2.1 = true then some ((i : Int), ev, ((sts.findIdx (eqB (step s ev).1) : Nat) : Int)) else none
theorem eOf_app {sts r : List σ} {i : Nat} {s : σ} {ev : Int} (h : (step s ev).2.1 = true → (step s ev).1 ∈ sts) : eOf step (sts ++ r) i s ev = eOf step sts i s ev := by
  unfold eOf
  split
  · rename_i hp
    rw [findIdx_app r ⟨_, h hp, by simp [eqB]⟩]
  · rfl
theorem filterMap_congr' {α β : Type} {f g : α → Option β} : ∀ {l : List α}, (∀ x ∈ l, f x = g x) → l.filterMap f = l.filterMap g
  | [], _ => rfl
  | x :: r, h => by
    simp only [List.filterMap_cons, h x (by simp)]
    rw [filterMap_congr' (l := r) fun y hy => h y (by simp [hy])]
/-- What is known of states: a property that steps keep, for which there are few. -/
structure Fin1 (eq : σ → σ → Bool) (lim : Bool) (P : σ → Prop) : Prop where
  step : ∀ s ev, P s → (step s ev).2.1 = true → P (step s ev).1
  eq : ∀ s t, P s → P t → eq s t = eqB s t
  few : lim = true → ∀ l : List σ, (∀ s ∈ l, P s) → l.Nodup → l.length < 4096
structure UOk (P : σ → Prop) (U : Unf σ) : Prop where
  ok : ∀ s ∈ U.sts, P s
  nd : U.sts.Nodup
  fr : kOf U.eds 1 = some U.sts.length
variable {step} {eq : σ → σ → Bool} {lim : Bool} {P : σ → Prop}
theorem uvisit_spec (hF : Fin1 step eq lim P) {i : Nat} {s : σ} {ev : Int} {U : Unf σ} (hU : UOk P U) (hs : P s) (hi : i < U.sts.length) :
    if (step s ev).2.2 ≠ 0 then uvisit eq lim step i s ev U = .error (step s ev).2.2 else ∃ r, uvisit eq lim step i s ev U = .ok ⟨U.sts ++ r, U.mkl, U.eds ++ [ev].filterMap (eOf step (U.sts ++ r) i s)⟩ ∧
      UOk P ⟨U.sts ++ r, U.mkl, U.eds ++ [ev].filterMap (eOf step (U.sts ++ r) i s)⟩ ∧ ((step s ev).2.1 = true → (step s ev).1 ∈ U.sts ++ r) := by
  unfold uvisit
  split
  · rfl
  cases hp : (step s ev).2.1 with
  | false =>
    refine ⟨[], ?_, ?_, fun h => by cases h⟩
    · simp [List.filterMap_cons, eOf, hp]
    · simpa [List.filterMap_cons, eOf, hp] using hU
  | true =>
    have hn := hF.step s ev hs hp
    have hq : U.sts.findIdx (eq (step s ev).1) = U.sts.findIdx (eqB (step s ev).1) := findIdx_congr fun x hx => hF.eq _ _ hn (hU.ok x hx)
    rw [hq]
    simp only [Bool.true_eq_false, if_false]
    by_cases hm : (step s ev).1 ∈ U.sts
    · have hlt : U.sts.findIdx (eqB (step s ev).1) < U.sts.length := findIdx_lt ⟨_, hm, by simp [eqB]⟩
      rw [if_pos hlt]
      have e1 : [ev].filterMap (eOf step (U.sts ++ []) i s) = [((i : Int), ev, ((U.sts.findIdx (eqB (step s ev).1) : Nat) : Int))] := by
        simp [List.filterMap_cons, eOf, hp]
      refine ⟨[], ?_, ⟨?_, ?_, ?_⟩, fun _ => by simpa using hm⟩
      · rw [e1, List.append_nil]
      · simpa using hU.ok
      · simpa using hU.nd
      · show kOf (U.eds ++ _) 1 = some (U.sts ++ []).length
        rw [e1, kOf_app, hU.fr, List.append_nil]
        simp only [Option.bind_some, kOf]
        rw [if_pos ⟨⟨by omega, by omega⟩, by omega, by omega⟩, if_neg (by omega)]
    · have hno : U.sts.findIdx (eqB (step s ev).1) = U.sts.length := findIdx_none fun x hx => by
        simp only [eqB, decide_eq_false_iff_not]
        exact fun e => hm (e ▸ hx)
      have hnd : (U.sts ++ [(step s ev).1]).Nodup := by
        unfold List.Nodup
        rw [List.pairwise_append]
        refine ⟨hU.nd, List.pairwise_singleton _ _, fun a ha b hb => ?_⟩
        rw [List.mem_singleton] at hb
        subst hb
        exact fun e => hm (e ▸ ha)
      have hok : ∀ t ∈ U.sts ++ [(step s ev).1], P t := by
        intro t ht
        rcases List.mem_append.1 ht with ht | ht
        · exact hU.ok t ht
        · rw [List.mem_singleton] at ht; subst ht; exact hn
      have hfew : ¬ (lim = true ∧ U.sts.length = 4096) := by
        rintro ⟨h1, h2⟩
        have := hF.few h1 _ hok hnd
        simp only [List.length_append, List.length_singleton] at this
        omega
      rw [hno, if_neg (Nat.lt_irrefl _), if_neg hfew]
      have e2 : (U.sts ++ [(step s ev).1]).findIdx (eqB (step s ev).1) = U.sts.length := by
        have h := idx_self hnd (i := U.sts.length) (by simp)
        simpa using h
      have e1 : [ev].filterMap (eOf step (U.sts ++ [(step s ev).1]) i s) = [((i : Int), ev, ((U.sts.length : Nat) : Int))] := by
        simp [List.filterMap_cons, eOf, hp, e2]
      refine ⟨[(step s ev).1], ?_, ⟨hok, hnd, ?_⟩, fun _ => by simp⟩
      · rw [e1]
      · show kOf (U.eds ++ _) 1 = some (U.sts ++ _).length
        rw [e1, kOf_app, hU.fr]
        simp only [Option.bind_some, kOf]
        rw [if_pos ⟨⟨by omega, by omega⟩, by omega, by omega⟩, if_pos True.intro]
        simp
theorem uvisits_spec (hF : Fin1 step eq lim P) {i : Nat} {s : σ} (hs : P s) : ∀ (l : List Int) {U : Unf σ}, UOk P U → i < U.sts.length →
    (∃ ev ∈ l, (step s ev).2.2 ≠ 0 ∧ uvisits eq lim step i s l U = .error (step s ev).2.2) ∨ ∃ r, uvisits eq lim step i s l U = .ok ⟨U.sts ++ r, U.mkl, U.eds ++ l.filterMap (eOf step (U.sts ++ r) i s)⟩ ∧
      UOk P ⟨U.sts ++ r, U.mkl, U.eds ++ l.filterMap (eOf step (U.sts ++ r) i s)⟩ ∧ ∀ ev ∈ l, (step s ev).2.2 = 0 ∧ ((step s ev).2.1 = true → (step s ev).1 ∈ U.sts ++ r)
  | [], U, hU, _ => .inr ⟨[], by simp [uvisits], by simpa using hU, by simp⟩
  | ev :: l, U, hU, hi => by
    have h := uvisit_spec hF (ev := ev) hU hs hi
    by_cases he : (step s ev).2.2 ≠ 0
    · rw [if_pos he] at h
      refine .inl ⟨ev, by simp, he, ?_⟩
      simp only [uvisits, h]
    rw [if_neg he] at h
    obtain ⟨r, h1, h2, h3⟩ := h
    simp only [uvisits, h1]
    have hi' : i < (U.sts ++ r).length := by rw [List.length_append]; omega
    rcases uvisits_spec hF hs l h2 hi' with ⟨e, he1, he2, he3⟩ | ⟨r', h4, h5, h6⟩
    · exact .inl ⟨e, by simp [he1], he2, he3⟩
    · have e1 : [ev].filterMap (eOf step (U.sts ++ r) i s) ++ l.filterMap (eOf step (U.sts ++ (r ++ r')) i s) = (ev :: l).filterMap (eOf step (U.sts ++ (r ++ r')) i s) := by
        rw [← List.append_assoc U.sts r r']
        rw [filterMap_congr' (g := eOf step (U.sts ++ r ++ r') i s) (l := [ev]) fun x hx => by rw [List.mem_singleton] at hx; subst hx; exact (eOf_app step h3).symm]
        rw [← List.filterMap_append]
        rfl
      simp only [List.append_assoc] at h4 h5 h6
      rw [e1] at h4 h5
      refine .inr ⟨r ++ r', h4, h5, fun x hx => ?_⟩
      rcases List.mem_cons.1 hx with rfl | hx
      · refine ⟨by simpa using he, fun hp => ?_⟩
        rw [← List.append_assoc]
        exact List.mem_append_left _ (h3 hp)
      · exact h6 x hx
/-- What is known when the first states are done. -/
structure UAt (mkd : σ → Bool) (alpha : List Int) (P : σ → Prop) (step : σ → Int → σ × Bool × Int) (i : Nat) (U : Unf σ) : Prop extends UOk P U where
  le : i ≤ U.sts.length
  pos : 0 < U.sts.length
  eds : U.eds = (List.range i).flatMap fun k => match U.sts[k]? with
    | none => []
    | some s => alpha.filterMap (eOf step U.sts k s)
  mkl : U.mkl = ((List.range i).filter fun k => match U.sts[k]? with
    | none => false
    | some s => mkd s).map fun k => ((k : Nat) : Int)
  fine : ∀ k s, k < i → U.sts[k]? = some s → ∀ ev ∈ alpha, (step s ev).2.2 = 0 ∧ ((step s ev).2.1 = true → (step s ev).1 ∈ U.sts)
/-- Where there is an error: a state that is found has it. -/
def UBad (alpha : List Int) (P : σ → Prop) (step : σ → Int → σ × Bool × Int) (e : Int) : Prop := e ≠ 0 ∧ ∃ s, P s ∧ ∃ ev ∈ alpha, (step s ev).2.2 = e
theorem flatMap_congr' {α β : Type} {f g : α → List β} : ∀ {l : List α}, (∀ x ∈ l, f x = g x) → l.flatMap f = l.flatMap g
  | [], _ => rfl
  | x :: r, h => by
    simp only [List.flatMap_cons, h x (by simp)]
    rw [flatMap_congr' (l := r) fun y hy => h y (by simp [hy])]
theorem filter_congr' {α : Type} {f g : α → Bool} : ∀ {l : List α}, (∀ x ∈ l, f x = g x) → l.filter f = l.filter g
  | [], _ => rfl
  | x :: r, h => by
    simp only [List.filter_cons, h x (by simp)]
    rw [filter_congr' (l := r) fun y hy => h y (by simp [hy])]
theorem uloop_spec (hF : Fin1 step eq lim P) {alpha : List Int} {B : Nat} (hB : ∀ l : List σ, (∀ s ∈ l, P s) → l.Nodup → l.length ≤ B) : ∀ (f i : Nat) {U : Unf σ}, UAt mkd alpha P step i U → B < i + f →
    (∃ e, uloop eq lim step mkd alpha f i U = .error e ∧ UBad alpha P step e) ∨ ∃ V, uloop eq lim step mkd alpha f i U = .ok V ∧ UAt mkd alpha P step V.sts.length V
  | 0, i, U, h, hf => by
    have := hB _ h.ok h.nd
    have := h.le
    omega
  | f + 1, i, U, h, hf => by
    simp only [uloop]
    cases hs : U.sts[i]? with
    | none =>
      have hi : i = U.sts.length := by
        have := List.getElem?_eq_none_iff.1 hs
        have := h.le
        omega
      subst hi
      exact .inr ⟨U, rfl, h⟩
    | some s =>
      obtain ⟨hlt, e⟩ := List.getElem?_eq_some_iff.1 hs
      have hPs : P s := h.ok s (e ▸ List.getElem_mem hlt)
      obtain ⟨m1, m2⟩ := umark_sts mkd i s U
      have hM : UOk P (umark mkd i s U) := ⟨by rw [m1]; exact h.ok, by rw [m1]; exact h.nd, by rw [m1, m2]; exact h.fr⟩
      rcases uvisits_spec hF hPs alpha hM (i := i) (by rw [m1]; exact hlt) with ⟨ev, he1, he2, he3⟩ | ⟨r, h4, h5, h6⟩
      · simp only [he3]
        exact .inl ⟨_, rfl, he2, s, hPs, ev, he1, rfl⟩
      · simp only [h4]
        rw [m1, m2] at *
        refine uloop_spec hF hB f (i + 1) (U := _) ⟨h5, ?_, ?_, ?_, ?_, ?_⟩ (by omega)
        · show i + 1 ≤ (U.sts ++ r).length
          simp only [List.length_append]; omega
        · show 0 < (U.sts ++ r).length
          simp only [List.length_append]; omega
        · show U.eds ++ alpha.filterMap (eOf step (U.sts ++ r) i s) = (List.range (i + 1)).flatMap fun k => match (U.sts ++ r)[k]? with
            | none => []
            | some s => alpha.filterMap (eOf step (U.sts ++ r) k s)
          rw [List.range_succ, List.flatMap_append, h.eds]
          congr 1
          · apply flatMap_congr'
            intro k hk
            rw [List.mem_range] at hk
            have hkl : k < U.sts.length := by omega
            rw [List.getElem?_append_left hkl, List.getElem?_eq_getElem hkl]
            simp only
            apply filterMap_congr'
            intro x hx
            exact (eOf_app step (h.fine k _ hk (List.getElem?_eq_getElem hkl) x hx).2).symm
          · simp only [List.flatMap_cons, List.flatMap_nil, List.append_nil]
            rw [List.getElem?_append_left hlt, hs]
        · show (umark mkd i s U).mkl = ((List.range (i + 1)).filter fun k => match (U.sts ++ r)[k]? with
            | none => false
            | some s => mkd s).map fun k => ((k : Nat) : Int)
          rw [List.range_succ, List.filter_append, List.map_append]
          have e1 : ((List.range i).filter fun k => match (U.sts ++ r)[k]? with
            | none => false
            | some s => mkd s) = ((List.range i).filter fun k => match U.sts[k]? with
            | none => false
            | some s => mkd s) := filter_congr' fun k hk => by
              rw [List.mem_range] at hk
              rw [List.getElem?_append_left (by omega)]
          rw [e1, ← h.mkl]
          have e2 : (match (U.sts ++ r)[i]? with
            | none => false
            | some s => mkd s) = mkd s := by
            rw [List.getElem?_append_left hlt, hs]
          simp only [List.filter_cons, List.filter_nil, e2]
          unfold umark
          split <;> simp
        · intro k t hk ht x hx
          show (step t x).2.2 = 0 ∧ ((step t x).2.1 = true → (step t x).1 ∈ U.sts ++ r)
          have ht : (U.sts ++ r)[k]? = some t := ht
          by_cases hki : k = i
          · subst hki
            rw [List.getElem?_append_left hlt, hs] at ht
            simp only [Option.some.injEq] at ht
            subst ht
            exact h6 x hx
          · have hkl : k < i := by omega
            rw [List.getElem?_append_left (by omega)] at ht
            have := h.fine k t hkl ht x hx
            exact ⟨this.1, fun hp => List.mem_append_left _ (this.2 hp)⟩
theorem unfR_spec (hF : Fin1 step eq lim P) {alpha : List Int} {first : σ} (h0 : P first) {B : Nat} (hB : ∀ l : List σ, (∀ s ∈ l, P s) → l.Nodup → l.length ≤ B) (hb : B < 4097) :
    (∃ e, unfR eq lim step mkd alpha first = .error e ∧ UBad alpha P step e) ∨ ∃ V, unfR eq lim step mkd alpha first = .ok V ∧ UAt mkd alpha P step V.sts.length V := by
  refine uloop_spec mkd hF hB 4097 0 ⟨⟨?_, ?_, rfl⟩, Nat.zero_le _, Nat.zero_lt_succ _, rfl, rfl, fun k s hk => absurd hk (Nat.not_lt_zero _)⟩ (by omega)
  · intro s hs
    rw [unf0, List.mem_singleton] at hs
    subst hs
    exact h0
  · simp [unf0]
/-- Another equality, without the limit: the same. -/
theorem uloop_same {eq' : σ → σ → Bool} {lim' : Bool} (hF : Fin1 step eq lim P) (hF' : Fin1 step eq' lim' P) {alpha : List Int} : ∀ (f i : Nat) {U : Unf σ}, UOk P U →
    uloop eq lim step mkd alpha f i U = uloop eq' lim' step mkd alpha f i U
  | 0, i, U, h => rfl
  | f + 1, i, U, h => by
    simp only [uloop]
    cases hs : U.sts[i]? with
    | none => rfl
    | some s =>
      obtain ⟨hlt, e⟩ := List.getElem?_eq_some_iff.1 hs
      have hPs : P s := h.ok s (e ▸ List.getElem_mem hlt)
      obtain ⟨m1, m2⟩ := umark_sts mkd i s U
      have hM : UOk P (umark mkd i s U) := ⟨by rw [m1]; exact h.ok, by rw [m1]; exact h.nd, by rw [m1, m2]; exact h.fr⟩
      have same : ∀ (l : List Int) {U : Unf σ}, UOk P U → i < U.sts.length → uvisits eq lim step i s l U = uvisits eq' lim' step i s l U := by
        intro l
        induction l with
        | nil => intro U _ _; rfl
        | cons ev l ih =>
          intro U hU hi
          have h1 := uvisit_spec hF (ev := ev) hU hPs hi
          have e1 : uvisit eq lim step i s ev U = uvisit eq' lim' step i s ev U := by
            unfold uvisit
            split
            · rfl
            split
            · rfl
            rename_i hp
            have hp : (step s ev).2.1 = true := by simpa using hp
            have hn := hF.step s ev hPs hp
            have hq : U.sts.findIdx (eq (step s ev).1) = U.sts.findIdx (eqB (step s ev).1) := findIdx_congr fun x hx => hF.eq _ _ hn (hU.ok x hx)
            have hq' : U.sts.findIdx (eq' (step s ev).1) = U.sts.findIdx (eqB (step s ev).1) := findIdx_congr fun x hx => hF'.eq _ _ hn (hU.ok x hx)
            rw [hq, hq']
            split
            · rfl
            have hc : ∀ b : Bool, (b = true → ∀ l : List σ, (∀ s ∈ l, P s) → l.Nodup → l.length < 4096) → ¬ (b = true ∧ U.sts.length = 4096) := by
              rintro b hb ⟨h1, h2⟩
              have := hb h1 _ hU.ok hU.nd
              omega
            rw [if_neg (hc lim hF.few), if_neg (hc lim' hF'.few)]
          simp only [uvisits, ← e1]
          by_cases he : (step s ev).2.2 ≠ 0
          · rw [if_pos he] at h1
            rw [h1]
          · rw [if_neg he] at h1
            obtain ⟨r, h2, h3, _⟩ := h1
            rw [h2]
            exact ih h3 (by simp only [List.length_append]; omega)
      have e2 := same alpha hM (by rw [m1]; exact hlt)
      simp only [← e2]
      rcases uvisits_spec hF hPs alpha hM (i := i) (by rw [m1]; exact hlt) with ⟨ev, he1, he2, he3⟩ | ⟨r, h4, h5, h6⟩
      · simp only [he3]
      · simp only [h4]
        exact uloop_same hF hF' f (i + 1) h5
theorem unfR_same {eq' : σ → σ → Bool} {lim' : Bool} (hF : Fin1 step eq lim P) (hF' : Fin1 step eq' lim' P) {alpha : List Int} {first : σ} (h0 : P first) :
    unfR eq lim step mkd alpha first = unfR eq' lim' step mkd alpha first := by
  refine uloop_same mkd hF hF' 4097 0 ⟨?_, ?_, rfl⟩
  · intro s hs
    rw [unf0, List.mem_singleton] at hs
    subst hs
    exact h0
  · simp [unf0]
end
end Go.AI


/- Automata in plain data: their check, and what is canonical. -/
namespace Go.AI
abbrev Edg := Int × Int × Int
structure Aut where
  alpha : List Int
  states : Int
  marked : List Int
  edges : List Edg
abbrev edgI (e : Edg) : List I := [vi e.1, vi e.2.1, vi e.2.2]
abbrev edgs (l : List Edg) : D := .i (.sl 3 l.length (l.map edgI))
abbrev autD (a : Aut) : D := .agg [ints a.alpha, ii a.states, ints a.marked, edgs a.edges]
def chkEds (alpha : List Int) (n : Int) : Option Edg → List Edg → Int
  | _, [] => 0
  | prev, x :: r => if x.1 < 0 ∨ x.1 ≥ n ∨ x.2.2 < 0 ∨ x.2.2 ≥ n then 2 else if x.2.1 ∉ alpha then 9 else
    if prev.any (fun y => decide (x.1 < y.1 ∨ x.1 = y.1 ∧ x.2.1 ≤ y.2.1)) = true then 5 else chkEds alpha n (some x) r
def chkA (a : Aut) : Int := if checkSet 32 a.alpha none ≠ 0 then checkSet 32 a.alpha none else if a.states < 0 then 2 else if a.states > 4096 then 3 else
  if checkSet a.states a.marked none ≠ 0 then checkSet a.states a.marked none else chkEds a.alpha a.states none a.edges
def ltE (x y : Edg) : Prop := x.1 < y.1 ∨ x.1 = y.1 ∧ x.2.1 < y.2.1
theorem ltE_trans {x y z : Edg} (h : ltE x y) (h' : ltE y z) : ltE x z := by
  unfold ltE at *
  omega
theorem chkEds_sorted {alpha : List Int} {n : Int} : ∀ {l : List Edg} {p : Option Edg}, chkEds alpha n p l = 0 → l.Pairwise ltE ∧ (∀ x ∈ l, (0 ≤ x.1 ∧ x.1 < n) ∧ (0 ≤ x.2.2 ∧ x.2.2 < n) ∧ x.2.1 ∈ alpha) ∧ ∀ y, p = some y → ∀ x ∈ l, ltE y x
  | [], p, _ => ⟨.nil, by simp, by simp⟩
  | x :: r, p, h => by
    simp only [chkEds] at h
    split at h
    · cases h
    rename_i h1
    split at h
    · cases h
    rename_i h2
    split at h
    · cases h
    rename_i h3
    obtain ⟨i1, i2, i3⟩ := chkEds_sorted h
    refine ⟨List.pairwise_cons.2 ⟨fun z hz => i3 x rfl z hz, i1⟩, ?_, ?_⟩
    · intro z hz
      rcases List.mem_cons.1 hz with rfl | hz
      · exact ⟨by omega, by omega, by simpa using h2⟩
      · exact i2 z hz
    · rintro y rfl z hz
      simp only [Option.any_some, decide_eq_true_eq] at h3
      have hxy : ltE y x := by unfold ltE; omega
      rcases List.mem_cons.1 hz with rfl | hz
      · exact hxy
      · exact ltE_trans hxy (i3 x rfl z hz)
end Go.AI


/- An automaton as an argument: data. -/
namespace Go.Proofs.YtonnakcgopcfnaaDoor
open Go.ChangeShapes Go.WideShapes Go.ChangeAt Go.RowKit Go.Deep Go.WideElems
set_option maxRecDepth 100000
section
variable {H : Type} {enc : TypeId × Value → H} {W : World}
theorem opn_edg : Opn enc Tryd.prog W 124 fun is => ∃ x : AI.Edg, is = AI.edgI x ∧ True := by
  intro n cs x h
  obtain ⟨is, hr, a, b, c, rfl, ⟨p, rfl, _⟩, ⟨q, rfl, _⟩, ⟨u, rfl, _⟩⟩ := opn_struct3 Tryd.underlying124 (z0 := 1) (z1 := 1) (z2 := 1) (by kernel_rfl) (by kernel_rfl) (by kernel_rfl) (by kernel_rfl) rfl rfl rfl
    (opn_int Tryd.underlying3) (opn_int Tryd.underlying3) (opn_int Tryd.underlying3) n cs x h
  exact ⟨_, hr, (p, q, u), rfl, trivial⟩
theorem opn_edgs : Opn enc Tryd.prog W 104 fun is => ∃ l : List AI.Edg, is = [.sl 3 l.length (l.map AI.edgI)] ∧ l.length ≤ AI.max63 := by
  intro n cs x h
  obtain ⟨is, hr, xs, rfl, hx, hl⟩ := opn_slice Tryd.underlying104 (z := 3) (by kernel_rfl) (by decide) opn_edg n cs x h
  obtain ⟨l, rfl, -⟩ := list_of (f := AI.edgI) (Q := fun _ => True) (xs := xs) hx
  refine ⟨_, hr, l, by simp, maxLen63 (by simpa using hl)⟩
abbrev autI (a : AI.Aut) : List AI.I := [AI.intsI a.alpha, AI.vi a.states, AI.intsI a.marked, .sl 3 a.edges.length (a.edges.map AI.edgI)]
structure autLen (x : AI.Aut) : Prop where
  e : x.edges.length ≤ AI.max63
  a : x.alpha.length ≤ AI.max63
  m : x.marked.length ≤ AI.max63
theorem opn_aut : Opn enc Tryd.prog W 106 fun is => ∃ a : AI.Aut, is = autI a ∧ autLen a := by
  intro n cs x h
  obtain ⟨is, hr, a, b, c, d, rfl, ⟨p, rfl, hp⟩, ⟨q, rfl, _⟩, ⟨r, rfl, h1⟩, ⟨l, rfl, h3⟩⟩ := opn_struct4 Tryd.underlying106 (z0 := 1) (z1 := 1) (z2 := 1) (z3 := 1) (by kernel_rfl) (by kernel_rfl) (by kernel_rfl) (by kernel_rfl) (by kernel_rfl) rfl rfl rfl rfl
    opn_ints (opn_int Tryd.underlying3) opn_ints opn_edgs n cs x h
  exact ⟨_, hr, ⟨p, q, r, l⟩, rfl, h3, hp, h1⟩
/-- An automaton, by value. -/
theorem open_aut {r : Reach} {b0 : Nat} {v : Value} {d : DataW H} {p : List MemPlace} (hv : Value.okWide Tryd.prog W r b0 106 v) (h : DataW.Trod enc Tryd.prog W 0 (fun _ => true) true 106 v d p) :
    ∃ a : AI.Aut, autLen a ∧ ∀ ρ sh, AI.RepD (KW W) ρ sh v (AI.autD a) := by
  obtain ⟨cs, rfl, _⟩ := okWide_struct Tryd.underlying106 hv
  obtain ⟨n, hn⟩ := h
  obtain ⟨is, hr, a, rfl, hk⟩ := opn_aut n _ _ hn
  refine ⟨a, hk, fun ρ sh => ?_⟩
  have := AI.RepD.agg (AI.RepDL.ofL (ρ := ρ) (sh := sh) hr)
  simpa [Value.cells] using this
end
end Go.Proofs.YtonnakcgopcfnaaDoor


/- Boxes checked; the literals of a box. -/
namespace Go.AI
open Go.Proofs
set_option maxRecDepth 20000
end Go.AI


/- Expressions of literals, joins. -/
namespace Go.AI
open Go.Proofs
set_option maxRecDepth 20000
end Go.AI


/- The guard of boxes. -/
namespace Go.AI
open Go.Proofs
set_option maxRecDepth 20000
end Go.AI


/- Literals, Implies, Equivalent, Simplify. -/
namespace Go.AI
open Go.Proofs
set_option maxRecDepth 20000
end Go.AI


/- A builder begins: a typed variable, its nil row as a row of no bytes. -/
namespace Go.AI
open Go.Proofs
section
variable {P : Program} {T : TT} {E : Env} {K : Kn} {ρ : Nat → Nat → Loc} {S : List Heap} {w : World} {dst : Nat}
theorem new_tb (hw : HInv E K ρ S w) (hf : objAt S 0 dst = none) {cs : List Value} {ds : List D} (hr : RepDL K ρ (shape S) cs ds) (ty : TypeId) :
    ∃ l, Grow K ρ S w [(dst, .tb ty ds)] K (upd ρ dst l) (w.alloc (.cells cs.toArray ty)) ∧ RepD K (upd ρ dst l) (shape (addS S [(dst, .tb ty ds)])) (.pointer (some ⟨w.heap.size, 0, none⟩)) (.own 0 dst 0 0) := by
  have hst := stays_add (K := K) (ρ := ρ) hf (.tb ty ds) ⟨w.heap.size, 0, none⟩
  refine ⟨⟨w.heap.size, 0, none⟩, grow_alloc hw hf (.inl rfl) (fun _ => rfl) ⟨cs.toArray, heap_alloc_new w _, by simpa using hr.stays hst, fun o => hw.K_fresh (Nat.le_refl _)⟩, ?_⟩
  have hsh : shape (addS S [(dst, .tb ty ds)]) 0 dst = some .box := by
    cases S with
    | nil => simp [shape, addS, objAt, look_cons, Ob.sh]
    | cons H O => simp [shape, objAt_addS, look_cons, Ob.sh]
  have := RepD.box (K := K) (ρ := upd ρ dst ⟨w.heap.size, 0, none⟩) (off := 0) hsh
  rwa [upd_same] at this
end
section
variable {c : Cx} {s : St} {k : List Item} {ops : Array Oper} {rest : List Nat} {o : Oper}
/-- At a pause: a variable that keeps its type. -/
theorem g_tb (hT : TOk c.P c.T) (hfn : c.P.funcs[c.f]? = some c.fn) {i t nm : Nat} {ti : TI} {H : Heap} {O : List Heap} (ho : ops[i]? = some o) (hop : o.op = .alloc t) (hd : o.dst = some nm) (hg : o.guard = none) (hn : Nat.ble (nm + 1) s.n = true) (hi : look c.T t = some ti)
    (hS : s.S = H :: O) (hf : look H nm = none) (h : GM c (run c.T c.stop 1000 (.inRegion ops rest :: k) { σ := (nm, .own 0 nm 0 0) :: s.σ, S := ((nm, .tb t (ti.zero.map fun v => .i (.v v))) :: H) :: O, n := s.n })) :
    GM c (.pause ops i rest o s k) := by
  refine ⟨?_⟩
  have hk : RG c ops rest { σ := (nm, .own 0 nm 0 0) :: s.σ, S := ((nm, .tb t (ti.zero.map fun v => .i (.v v))) :: H) :: O, n := s.n } (Rch c k) := run_sound hT hfn 1000 (.inRegion ops rest :: k) _ h.h
  refine rg_op ho (by unfold wantedD; rw [hg]) ?_
  intro K ρ a w hinv next Qe hnext
  have hok := hT _ _ hi
  have hh := hinv.h
  rw [hS] at hh
  obtain ⟨inf, h1, h2, h3, z, h4, h5, -⟩ := hok.info
  have hf' : objAt (H :: O) 0 nm = none := by simpa [objAt] using hf
  obtain ⟨l, g, r⟩ := new_tb (dst := nm) hh hf' (ones_of hok.one) t
  have hz : z.cells = ti.zero.toArray := by rw [← h5]
  have hrun : (execOp a.eval o).run c.P w = .ok (.value (.pointer (some ⟨w.heap.size, 0, none⟩))) (w.alloc (.cells ti.zero.toArray t)) := by
    simp [execOp, hop, Instr.alloc, zeroValue, typeInfo, h1, h4, newVar, newRow, hz]
  simp only [Oper.wp, hrun, Oper.upon]
  obtain ⟨hI, hst⟩ := HInv.grow (S := H :: O) rfl hh (fun _ _ _ e => e) (fun n' h => by
    cases hl : look [(nm, Ob.tb t (ti.zero.map fun v => .i (.v v)))] n' with
    | none => exact absurd hl h
    | some ob => obtain ⟨rfl, rfl⟩ := look_one hl; exact hf) g
  refine hnext _ _ _ _ _ hst.le (fun d n x _ e => ⟨hst.shp _ _ _ (by rw [hS] at e; exact e), hst.loc _ _ _ (by rw [hS] at e; exact e)⟩) ?_ hk
  rw [hd]
  refine inv_set hinv (Nat.le_of_ble_eq_true hn) hI ?_ r
  rw [hS]; exact hst
theorem wk_niltb (b nm e z : Nat) {T : Nat} {x : D} {H : Heap} {O : List Heap} (hS : s.S = H :: O) (hb : look H b = some (.tb T [x, .i (.v (.slice none 0 0))])) (hf : look H nm = none) : Wk c s { σ := s.σ, S := ((b, .tb T [x, .osl 0 nm]) :: (nm, .arr e z 0 [] true) :: H) :: O, n := s.n } := by
  intro K ρ a w hi
  have hh := hi.h
  rw [hS] at hh
  let l0 : Loc := ⟨0, 0, none⟩
  have hown : ∀ ρ' sh', OwnAt K ρ' sh' w l0 (.arr e z 0 [] true) := fun ρ' sh' => ⟨by simp, rfl, Nat.le_refl _, by simp [l0], .inl ⟨rfl, rfl⟩⟩
  have hg : Grow K ρ (H :: O) w [(nm, .arr e z 0 [] true)] K (upd ρ nm l0) w := by
    refine ⟨K.le_refl, fun _ _ _ h => .inl h, Nat.le_refl _, fun _ _ => rfl, ⟨rfl, rfl, rfl⟩, fun d n' h => ?_, hh.holds, fun n' ob e' => ?_, fun n1 o1 n2 o2 e1 e2 b1 b2 _ => ?_⟩
    · refine upd_other _ _ _ (h.imp id fun h e' => ?_)
      subst e'
      simp [look_cons] at h
    · obtain ⟨rfl, rfl⟩ := look_one e'
      rw [upd_same]
      exact ⟨hown _ _, fun hb => absurd rfl hb⟩
    · obtain ⟨rfl, rfl⟩ := look_one e1
      obtain ⟨rfl, rfl⟩ := look_one e2
      rfl
  obtain ⟨hI, hst⟩ := HInv.grow (S := H :: O) rfl hh (fun _ _ _ e => e) (fun n' h => by
    cases hl : look [(nm, Ob.arr e z 0 [] true)] n' with
    | none => exact absurd hl h
    | some ob => obtain ⟨rfl, rfl⟩ := look_one hl; exact hf) hg
  have hbn : nm ≠ b := fun e' => by subst e'; rw [hf] at hb; cases hb
  have hI : HInv c.E K (upd ρ nm l0) (((nm, .arr e z 0 [] true) :: H) :: O) w := hI
  have hob : objAt (((nm, .arr e z 0 [] true) :: H) :: O) 0 b = some (.tb T [x, .i (.v (.slice none 0 0))]) := by
    simp only [objAt, List.getElem?_cons_zero, look_cons, if_neg hbn]; exact hb
  have hwb := hI.own _ _ _ hob
  have e0 : (fun d n => upd ρ nm l0 (0 + d) n) = upd ρ nm l0 := by funext d n; rw [Nat.zero_add]
  have e1 : (fun d n => shape (((nm, Ob.arr e z 0 [] true) :: H) :: O) (0 + d) n) = shape (((nm, Ob.arr e z 0 [] true) :: H) :: O) := by funext d n; rw [Nat.zero_add]
  obtain ⟨cur, hc, hrc, hKb⟩ := hwb
  rw [e0, List.drop_zero] at hrc
  have hnew : RepDL K (fun d n => upd ρ nm l0 (0 + d) n) (fun d n => shape (((nm, Ob.arr e z 0 [] true) :: H) :: O) (0 + d) n) cur.toList [x, .osl 0 nm] := by
    rw [e0, e1]
    generalize cur.toList = L at hrc
    cases hrc with
    | cons h1 h2 => cases h2 with
      | cons h3 h4 =>
        cases h4
        rw [inv_v h3]
        have := RepD.osl (K := K) (ρ := upd ρ nm l0) (sh := shape (((nm, Ob.arr e z 0 [] true) :: H) :: O)) (dep := 0) (nm := nm) (es := z) (len := 0) (by simp [shape, objAt, look_cons, Ob.sh])
        rw [upd_same] at this
        exact .cons h1 (.cons this .nil)
  have hI2 := hI.put (ob' := .tb T [x, .osl 0 nm]) hob rfl trivial trivial (w' := w) rfl (fun _ _ => rfl) ⟨rfl, rfl, rfl⟩ (fun o' x' hx' => by rw [hKb] at hx'; cases hx') ⟨cur, hc, hnew, hKb⟩
  have hsh : shape (setAt (((nm, Ob.arr e z 0 [] true) :: H) :: O) 0 b (.tb T [x, .osl 0 nm])) = shape (((nm, Ob.arr e z 0 [] true) :: H) :: O) := shape_setAt hob rfl
  refine ⟨K, upd ρ nm l0, hI2, hi.defers, hi.size, fun t' d e' => ?_⟩
  have := hi.slots _ _ e'
  rw [hS] at this
  show RepD K _ (shape (((b, .tb T [x, .osl 0 nm]) :: (nm, .arr e z 0 [] true) :: H) :: O)) _ _
  have hsh : shape (((b, .tb T [x, .osl 0 nm]) :: (nm, .arr e z 0 [] true) :: H) :: O) = shape (((nm, Ob.arr e z 0 [] true) :: H) :: O) := hsh
  rw [hsh]
  exact this.stays hst
end
end Go.AI


/- strings.Builder of this program: copyCheck, WriteString, WriteByte, String, told whole. -/
namespace Go.Proofs
open Go.Shelf Go.RowKit
theorem sizeB : (Tryd.prog.info? 168).map (·.size) = some 2 := by kernel_rfl
theorem liesB : liesAt Tryd.prog Tryd.prog.depth 168 (2 / Tryd.prog.cellsOf 168) 0 168 1 = true := by kernel_rfl
set_option maxHeartbeats 1000000 in
set_option maxRecDepth 100000 in
theorem chk_used (b : Nat) (w : World) (h0 : w.cell? ⟨b, 0, none⟩ = some (.pointer (some ⟨b, 0, none⟩))) :
    Calls Tryd.prog 148 #[.pointer (some ⟨b, 0, none⟩)] w fun e w' => e = .returned (.tuple #[]) ∧ w' = w := by
  obtain ⟨j, hj, _⟩ := Option.map_eq_some_iff.1 sizeB
  have u72 := run_underlying Tryd.underlying168
  have u70 := run_underlying Tryd.underlying166
  have u4 := run_underlying Tryd.underlying4
  have u164 := run_underlying Tryd.underlying253
  go_enter Tryd.func148, Tryd.ntmps148
  go_wp2
  rw [Lib.run_neq_ptr_same w _ Tryd.underlying166 hj]
  go_wp2
  go_end0
  exact ⟨rfl, rfl⟩
set_option maxHeartbeats 1000000 in
set_option maxRecDepth 100000 in
theorem chk_fresh (b : Nat) (w : World) (h0 : w.cell? ⟨b, 0, none⟩ = some (.pointer none)) (hsh : w.shape? b = some (168, 2)) (hfz : w.frozen? ⟨b, 0, none⟩ = false) :
    Calls Tryd.prog 148 #[.pointer (some ⟨b, 0, none⟩)] w fun e w' => e = .returned (.tuple #[]) ∧ w' = w.setCell ⟨b, 0, none⟩ (.pointer (some ⟨b, 0, none⟩)) := by
  obtain ⟨j, hj, hjs⟩ := Option.map_eq_some_iff.1 sizeB
  have u72 := run_underlying Tryd.underlying168
  have u70 := run_underlying Tryd.underlying166
  have u4 := run_underlying Tryd.underlying4
  have u164 := run_underlying Tryd.underlying253
  go_enter Tryd.func148, Tryd.ntmps148
  go_wp2
  rw [Lib.run_to_unsafe w ⟨b, 0, none⟩ Tryd.underlying166 Tryd.underlying253 hj (by rw [hjs]; decide) hsh (Nat.zero_lt_succ 1)]
  simp only [Result.andThen]
  rw [Oper.upon_value]
  go_wp2
  rw [run_callFunc_extern Tryd.func174 (by kernel_rfl) (by kernel_rfl) (by kernel_rfl) (e := Extern.AbiNoEscape.same) (by kernel_rfl)]
  rw [Lib.run_noEscape]
  simp only [Result.andThen]
  rw [Oper.upon_value]
  go_wp2
  rw [Lib.run_from_unsafe w ⟨b, 0, none⟩ Tryd.underlying253 Tryd.underlying166 hj hsh liesB]
  simp only [Result.andThen]
  rw [Oper.upon_value]
  go_wp2
  go_end0
  exact ⟨rfl, rfl⟩
/-- copyCheck. -/
theorem bld_check148 (b : Nat) (p v : Value) (bs : List Value) (w : World) (hp : p = .pointer none ∨ p = .pointer (some ⟨b, 0, none⟩)) (hbk : w.heap[b]? = some (.cells #[p, v] 168 (0, 0)))
    (hrow : w.ownsRow 0 5 1 v bs.length bs) (hne : v.ownBlock ≠ some b) :
    Calls Tryd.prog 148 #[.pointer (some ⟨b, 0, none⟩)] w fun e w' => e = .returned (.tuple #[]) ∧ (w'.heap[b]? = some (.cells #[.pointer (some ⟨b, 0, none⟩), v] 168 (0, 0)) ∧ w'.ownsRow 0 5 1 v bs.length bs) ∧
      ((w' = w ∧ p = .pointer (some ⟨b, 0, none⟩)) ∨ (w' = w.setCell ⟨b, 0, none⟩ (.pointer (some ⟨b, 0, none⟩)) ∧ p = .pointer none)) := by
  have hc : w.cell? ⟨b, 0, none⟩ = some p := by rw [Lib.cell_of_heap hbk]; rfl
  rcases hp with rfl | rfl
  · have hsh : w.shape? b = some (168, 2) := by simp [World.shape?, hbk]
    refine (chk_fresh b w hc hsh (Lib.frozen_of_heap hbk 0)).mono ?_
    rintro e w' ⟨rfl, rfl⟩
    exact ⟨rfl, ⟨heap_set0 hbk, ownsRow_at hrow fun k hk => Go.Deep.blk_setCell_other w _ _ k fun e => hne (by rw [hk, e])⟩, .inr ⟨rfl, rfl⟩⟩
  · refine (chk_used b w hc).mono ?_
    rintro e w' ⟨rfl, rfl⟩
    exact ⟨rfl, ⟨hbk, hrow⟩, .inl ⟨rfl, rfl⟩⟩
set_option maxHeartbeats 2000000 in
set_option maxRecDepth 100000 in
/-- WriteString. -/
theorem bld_str90 (b : Nat) (p v0 : Value) (bs : List Value) (s : ByteArray) (w : World) (hp : p = .pointer none ∨ p = .pointer (some ⟨b, 0, none⟩)) (hbk0 : w.heap[b]? = some (.cells #[p, v0] 168 (0, 0)))
    (hrow : w.ownsRow 0 5 1 v0 bs.length bs) (hne : v0.ownBlock ≠ some b) (hlen : bs.length + s.size ≤ 140737488355328) :
    Calls Tryd.prog 90 #[.pointer (some ⟨b, 0, none⟩), .string s] w fun e w' => e = .returned (.tuple #[.int .i64 s.size, .nilIface]) ∧ Wrote 168 5 b p v0 bs (Lib.strCells s) w w' := by
  obtain ⟨i0, hi, hz0, hz1, hz2⟩ := info_parts Tryd.Builder_Extra_169.infoByte
  have u72 := run_underlying Tryd.underlying168
  have u70 := run_underlying Tryd.underlying166
  have u37 := run_underlying Tryd.underlying38
  have u9 := run_underlying Tryd.underlying9
  have u4 := run_underlying Tryd.underlying4
  have u5 := run_underlying Tryd.underlying5
  have u3 := run_underlying Tryd.underlying3
  have e240 : ∀ args w, (callFunc 148 args).run Tryd.prog w = .ok (.enter 148 args) w := Tryd.call148
  go_enter Tryd.func90, Tryd.ntmps90
  go_wp2_with (go_at_fn 148; refine (bld_check148 b p v0 bs _ hp hbk0 hrow hne).mono ?_)
  rintro e w1 ⟨rfl, ⟨hbk, hown⟩, hb1⟩
  have c0 : w1.cell? ⟨b, 0, none⟩ = some (.pointer (some ⟨b, 0, none⟩)) := by rw [Lib.cell_of_heap hbk]; rfl
  have c1 : w1.cell? ⟨b, 1, none⟩ = some v0 := by rw [Lib.cell_of_heap hbk]; rfl
  have hlt : b < w1.heap.size := by
    rcases Nat.lt_or_ge b w1.heap.size with h' | h'
    · exact h'
    · simp [Array.getElem?_eq_none h'] at hbk
  go_wp2_with (at_builtin; refine wpList_app_str _ rfl _ _ 38 9 rfl 5 i0 Tryd.underlying38 Tryd.underlying9 hi hz0 hz1 hz2 _ _ _ rfl hown s rfl ?c3 ?c4 ?_)
  case c3 => unfold maxLen; omega
  case c4 => omega
  intro v' w2 hown' hgrow hat
  have hb2 : w2.heap[b]? = some (.cells #[.pointer (some ⟨b, 0, none⟩), v0] 168 (0, 0)) := by
    rw [hgrow.block b hlt (fun e => hne e.symm)]
    exact hbk
  have d0 : w2.cell? ⟨b, 0, none⟩ = some (.pointer (some ⟨b, 0, none⟩)) := by rw [Lib.cell_of_heap hb2]; rfl
  have d1 : w2.cell? ⟨b, 1, none⟩ = some v0 := by rw [Lib.cell_of_heap hb2]; rfl
  have f1 : w2.frozen? ⟨b, 1, none⟩ = false := Lib.frozen_of_heap hb2 1
  have hfin : Wrote 168 5 b p v0 bs (Lib.strCells s) w (w2.setCell ⟨b, 1, none⟩ v') := ⟨w1, w1, w2, v', hb1, .inl rfl, by simpa [Lib.strCells_length] using hown', hgrow, hat, rfl⟩
  obtain ⟨ao, n', cap, rfl⟩ : ∃ ao n' cap, v' = .slice ao n' cap := by
    rcases hown'.2 with ⟨hv, _⟩ | ⟨g, cap, cur, hv, _⟩
    · exact ⟨_, _, _, hv⟩
    · exact ⟨_, _, _, hv⟩
  go_wp2
  go_ret2
  exact ⟨rfl, hfin⟩
set_option maxHeartbeats 2000000 in
set_option maxRecDepth 100000 in
/-- WriteByte. -/
theorem bld_byte155 (b : Nat) (p v0 : Value) (bs : List Value) (c : Int) (w : World) (hp : p = .pointer none ∨ p = .pointer (some ⟨b, 0, none⟩)) (hbk0 : w.heap[b]? = some (.cells #[p, v0] 168 (0, 0)))
    (hrow : w.ownsRow 0 5 1 v0 bs.length bs) (hne : v0.ownBlock ≠ some b) (hlen : bs.length + 1 ≤ 140737488355328) :
    Calls Tryd.prog 155 #[.pointer (some ⟨b, 0, none⟩), .int .u8 c] w fun e w' => e = .returned .nilIface ∧ Wrote 168 5 b p v0 bs [.int .u8 c] w w' := by
  obtain ⟨i0, hi, hz0, hz1, hz2⟩ := info_parts Tryd.Builder_Extra_169.infoByte
  have u72 := run_underlying Tryd.underlying168
  have u70 := run_underlying Tryd.underlying166
  have u37 := run_underlying Tryd.underlying38
  have u4 := run_underlying Tryd.underlying4
  have u5 := run_underlying Tryd.underlying5
  have e240 : ∀ args w, (callFunc 148 args).run Tryd.prog w = .ok (.enter 148 args) w := Tryd.call148
  go_enter Tryd.func155, Tryd.ntmps155
  go_wp2_with (go_at_fn 148; refine (bld_check148 b p v0 bs _ hp hbk0 hrow hne).mono ?_)
  rintro e w1 ⟨rfl, ⟨hbk, hown⟩, hb1⟩
  have c0 : w1.cell? ⟨b, 0, none⟩ = some (.pointer (some ⟨b, 0, none⟩)) := by rw [Lib.cell_of_heap hbk]; rfl
  have c1 : w1.cell? ⟨b, 1, none⟩ = some v0 := by rw [Lib.cell_of_heap hbk]; rfl
  have hlt : b < w1.heap.size := by
    rcases Nat.lt_or_ge b w1.heap.size with h' | h'
    · exact h'
    · simp [Array.getElem?_eq_none h'] at hbk
  go_wp2_with (at_builtin; refine wpList_app_row _ rfl _ _ 38 rfl 5 i0 Tryd.underlying38 hi hz0 hz1 hz2 _ _ _ rfl (hown.alloc _) ⟨w1.heap.size, 0, none⟩ 1 1 [.int .u8 c] rfl rfl ?c1 ?c2 ?c3 ?c4 ?_)
  case c1 =>
    intro j u hj
    match j, hj with
    | 0, hj => simp at hj; subst hj; simp [Addr.add]
  case c2 => intro u hu; simp at hu; subst hu; rfl
  case c3 => unfold maxLen; omega
  case c4 => omega
  intro v' w2 hown' hgrow hat
  have hb2 : w2.heap[b]? = some (.cells #[.pointer (some ⟨b, 0, none⟩), v0] 168 (0, 0)) := by
    rw [hgrow.block b (by simp; omega) (fun e => hne e.symm), Lib.alloc_old w1 _ b hlt]
    exact hbk
  have d0 : w2.cell? ⟨b, 0, none⟩ = some (.pointer (some ⟨b, 0, none⟩)) := by rw [Lib.cell_of_heap hb2]; rfl
  have d1 : w2.cell? ⟨b, 1, none⟩ = some v0 := by rw [Lib.cell_of_heap hb2]; rfl
  have f1 : w2.frozen? ⟨b, 1, none⟩ = false := Lib.frozen_of_heap hb2 1
  have hfin : Wrote 168 5 b p v0 bs [.int .u8 c] w (w2.setCell ⟨b, 1, none⟩ v') := ⟨w1, _, w2, v', hb1, .inr ⟨_, rfl⟩, by simpa using hown', hgrow, hat, rfl⟩
  obtain ⟨g, cap, rfl⟩ : ∃ g cap, v' = .slice (some ⟨g, 0, none⟩) (bs.length + 1) cap := by
    rcases hown'.2 with ⟨_, h0⟩ | ⟨g, cap, cur, hv, _⟩
    · omega
    · exact ⟨g, cap, hv⟩
  go_wp2
  go_ret
  exact ⟨rfl, hfin⟩
end Go.Proofs
namespace Go.AI
open Go.Proofs
theorem wspec90 (s : ByteArray) : WSpec Tryd.prog 90 168 5 (.tuple #[.int .i64 s.size, .nilIface]) (.string s) (Lib.strCells s) :=
  fun b p v0 bs w hp hbk hrow hne hlen => bld_str90 b p v0 bs s w hp hbk hrow hne (by rw [Lib.strCells_length] at hlen; exact hlen)
theorem wspec155 (c : Int) : WSpec Tryd.prog 155 168 5 .nilIface (.int .u8 c) [.int .u8 c] :=
  fun b p v0 bs w hp hbk hrow hne hlen => bld_byte155 b p v0 bs c w hp hbk hrow hne (by simpa using hlen)
theorem sspec93 : SSpec Tryd.prog 93 168 5 := fun b p v l w hbk hown h0 => bld_string Tryd.lays169 Tryd.Builder_Extra_169 b p v l w hbk hown h0
end Go.AI


/- The text of a literal. -/
namespace Go.AI
open Go.Proofs
set_option maxRecDepth 20000
end Go.AI


/- The text of boxes. -/
namespace Go.AI
open Go.Proofs
set_option maxRecDepth 20000
abbrev oby (T : List UInt8) : Ob := .arr 5 1 T.length (u8l T) true
theorem oby_app (T s : List UInt8) : Ob.arr 5 1 (T.length + s.length) (u8l T ++ u8l s) true = oby (T ++ s) := by rw [u8l_app]; simp [oby]
theorem strCells_u8 (K : Kn) (s : ByteArray) : RepL K (Lib.strCells s) (u8l s.data.toList).flatten := u8l_rep K s.data.toList
theorem size_list (s : ByteArray) : s.data.toList.length = s.size := by rw [Array.length_toList]; rfl
/-- A write of a string. -/
theorem does_ws {c : Cx} (hP : c.P = Tryd.prog) {s : St} {o : Oper} {t nm nm2 : Nat} {dp : D} {H : Heap} {O : List Heap} (sb : ByteArray) (T : List UInt8) (hdp : dp = .i (.v (.pointer none)) ∨ dp = .own 0 nm 0 0) (hlim : T.length + sb.size ≤ 140737488355328) (ht : o.dst = some t) (hn : t < s.n) (hS : s.S = H :: O)
    (hb : look H nm = some (.tb 168 [dp, .osl 0 nm2])) (ha : look H nm2 = some (oby T)) (hne : nm ≠ nm2) :
    Wp c o s 90 [.own 0 nm 0 0, .i (.v (.string sb))] { σ := (t, .tup [ii sb.size, .i (.v .nilIface)]) :: killσ nm2 s.σ, S := ((nm, .tb 168 [.own 0 nm 0 0, .osl 0 nm2]) :: (nm2, oby (T ++ sb.data.toList)) :: killH nm2 ((nm, .tb 168 [.own 0 nm 0 0, .osl 0 nm2]) :: H)) :: O, n := s.n } := by
  have h := does_write (c := c) (s := s) (o := o) (ys := u8l sb.data.toList) (m := sb.data.toList.length) (T := 168) (ty := 5) (rd := .tup [ii sb.size, .i (.v .nilIface)]) (dx := .i (.v (.string sb))) (x := .string sb) (res := .tuple #[.int .i64 sb.size, .nilIface]) (xs := u8l T) (n := T.length) (by rw [hP]; exact wspec90 sb) (by rw [hP]; exact Tryd.call90)
    (fun K ρ sh v h => inv_v h) (fun K ρ sh => .tup (.cons (.i (.v rfl)) (.cons (.i (.v rfl)) .nil))) hdp ht hn hS hb ha hne (fun K => strCells_u8 K sb) (u8l_el _) (by simp [u8l]) (by rw [size_list]; exact hlim)
  rwa [oby_app] at h
theorem does_bs {c : Cx} (hP : c.P = Tryd.prog) {s : St} {o : Oper} {t nm nm2 : Nat} {dp : D} {H : Heap} {O : List Heap} {T : List UInt8} (h0 : T ≠ []) (ht : o.dst = some t) (hn : t < s.n) (hS : s.S = H :: O)
    (hb : look H nm = some (.tb 168 [dp, .osl 0 nm2])) (ha : look H nm2 = some (oby T)) :
    Wp c o s 93 [.own 0 nm 0 0] { σ := (t, .i (.v (.string ⟨T.toArray⟩))) :: killσ nm2 s.σ, S := ((nm2, .arr 5 1 0 [] true) :: killH nm2 H) :: O, n := s.n } :=
  does_bstr (c := c) (s := s) (o := o) (T := 168) (ty := 5) (by rw [hP]; exact sspec93) (by rw [hP]; exact Tryd.call93) h0 ht hn hS hb ha
end Go.AI


/- The key of numbers: flatten.key. -/
namespace Go.AI
open Go.Proofs
set_option maxRecDepth 20000
/-- A write of a byte. -/
theorem does_wb {c : Cx} (hP : c.P = Tryd.prog) {s : St} {o : Oper} {t nm nm2 : Nat} {dp : D} {H : Heap} {O : List Heap} (b : UInt8) (T : List UInt8) (hdp : dp = .i (.v (.pointer none)) ∨ dp = .own 0 nm 0 0) (hlim : T.length + 1 ≤ 140737488355328) (ht : o.dst = some t) (hn : t < s.n) (hS : s.S = H :: O)
    (hb : look H nm = some (.tb 168 [dp, .osl 0 nm2])) (ha : look H nm2 = some (oby T)) (hne : nm ≠ nm2) :
    Wp c o s 155 [.own 0 nm 0 0, .i (.v (.int .u8 b.toNat))] { σ := (t, .i (.v .nilIface)) :: killσ nm2 s.σ, S := ((nm, .tb 168 [.own 0 nm 0 0, .osl 0 nm2]) :: (nm2, oby (T ++ [b])) :: killH nm2 ((nm, .tb 168 [.own 0 nm 0 0, .osl 0 nm2]) :: H)) :: O, n := s.n } := by
  have h := does_write (c := c) (s := s) (o := o) (ys := u8l [b]) (m := 1) (T := 168) (ty := 5) (rd := .i (.v .nilIface)) (dx := .i (.v (.int .u8 b.toNat))) (x := .int .u8 b.toNat) (res := .nilIface) (xs := u8l T) (n := T.length) (by rw [hP]; exact wspec155 b.toNat) (by rw [hP]; exact Tryd.call155)
    (fun K ρ sh v h => inv_v h) (fun K ρ sh => .i (.v rfl)) hdp ht hn hS hb ha hne (fun K => u8l_rep K [b]) (u8l_el _) (by simp [u8l]) hlim
  rwa [show T.length + 1 = T.length + [b].length from rfl, oby_app] at h
def keyL : List UInt8 → List Int → List UInt8
  | T, [] => T
  | T, n :: r => keyL (T ++ (itoaB n).data.toList ++ [32]) r
def keyLs : List UInt8 → List (List Int) → List UInt8
  | T, [] => T
  | T, l :: r => keyLs (keyL T l ++ [59]) r
/-- The key of some lists. -/
def fkeyB (ls : List (List Int)) : ByteArray := ⟨(keyLs [] ls).toArray⟩
abbrev dp3 (p : Bool) : D := bif p then .own 0 3 0 0 else .i (.v (.pointer none))
theorem dp3_or (p : Bool) : dp3 p = .i (.v (.pointer none)) ∨ dp3 p = .own 0 3 0 0 := by cases p; exact .inl rfl; exact .inr rfl
set_option maxHeartbeats 4000000 in
theorem key106 {g : Nat} (hg : IsTab g) {ty : TypeId} {fr : Nat × Nat} (O : List Heap) (ls : List (List Int)) (h0 : ls ≠ []) (hn : ls.length ≤ 4096) (hl : ∀ l ∈ ls, l.length ≤ 4096 ∧ ∀ v ∈ l, i64B v) :
    ASpecT g (ptab ty fr) Tryd.prog 106 [.i (intssI ls)] O (.i (.v (.string (fkeyB ls)))) [] O := by
  have hno : fkeyB ls = ⟨(keyLs [] (ls.drop 0)).toArray⟩ := rfl
  have hpos : 0 < ls.length := List.length_pos_iff.2 h0
  generalize fkeyB ls = R at *
  refine aspecT_stop [200003, 200022, 200023, 200025, 200027] Tk Tryd.func106 rfl Tryd.call106 Tryd.ntmps106 (Nat.le_of_ble_eq_true rfl) fun E hE => ?_
  refine g_run Tk Tryd.func106 ?_
  refine g_tb Tk Tryd.func106 rfl rfl rfl rfl rfl rfl rfl rfl ?_
  refine g_loop ?_
  refine rch_wk (wk_niltb 3 60 5 1 rfl rfl rfl) ?_
  refine rch_loop2 (fun x : Nat × List UInt8 × Bool => [(3, .own 0 3 0 0), (8, .i (intssI ls)), (9, ii ls.length), (10, ii x.1)]) (fun x => [(3, .tb 168 [dp3 x.2.2, .osl 0 60]), (60, oby x.2.1)]) (fun _ => O) 28
    (fun x => x.1 ≤ ls.length ∧ x.2.1.length ≤ 100000 * x.1 ∧ (x.1 = 0 ∨ x.2.1 ≠ []) ∧ R = ⟨(keyLs x.2.1 (ls.drop x.1)).toArray⟩) (fun x => ls.length - x.1) (0, [], false)
    ⟨Nat.zero_le _, by simp, .inl rfl, hno⟩ ⟨rfl, rfl, rfl, rfl, trivial⟩ rfl ⟨rfl, rfl, trivial⟩ rfl rfl ?_
  clear hno
  rintro ⟨i, T, p⟩ ⟨hi, hTl, hT0, hno⟩ ih
  simp only at hi hTl hT0 hno
  refine g_run Tk Tryd.func106 ?_
  first | refine g_cnd Tk Tryd.func106 rfl (fun g1 => ?_) (fun g1 => ?_) | refine g_know Tk Tryd.func106 rfl (fun g1 => ?_) (fun g1 => ?_) | refine s_know Tk (fun g1 => ?_) (fun g1 => ?_)
  · have h2 : i < ls.length := by simpa using g1
    clear g1
    have gb : (ls.map fun x => [intsI x])[(i : Int).toNat]? = some [intsI ls[i]] := get_mapZ (f := fun x => [intsI x]) h2
    have db : ls.drop i = ls[i] :: ls.drop (i + 1) := List.drop_eq_getElem_cons h2
    have hll := hl _ (List.getElem_mem h2)
    rw [db] at hno
    simp only [keyLs] at hno
    clear db
    generalize ls[i] = l at *
    have hi1 : ii (IntKind.i64.wrap ((i : Int) + 1)) = ii ((i + 1 : Nat) : Int) := congrArg ii (wsucc (n := 4096) (by omega) (by decide))
    first | refine g_need Tk Tryd.func106 (by exact ⟨by omega, by show (i : Int) < (ls.length : Int); omega⟩) ?_ | refine s_need Tk (by exact ⟨by omega, by show (i : Int) < (ls.length : Int); omega⟩) ?_
    first | refine g_elem Tk Tryd.func106 (gb) ?_ | refine s_elem Tk (gb) ?_
    have hF0 : keyL T l = keyL T (l.drop 0) := rfl
    generalize keyL T l = F at *
    refine g_loop ?_
    refine rch_loop2 (fun x : Nat × List UInt8 × Bool => [(3, .own 0 3 0 0), (8, .i (intssI ls)), (9, ii ls.length), (10, ii i), (14, ints l), (15, ii l.length), (16, ii x.1)]) (fun x => [(3, .tb 168 [dp3 x.2.2, .osl 0 60]), (60, oby x.2.1)]) (fun _ => O) 28
      (fun x => x.1 ≤ l.length ∧ x.2.1.length ≤ T.length + 22 * x.1 ∧ F = keyL x.2.1 (l.drop x.1)) (fun x => l.length - x.1) (0, T, p)
      ⟨Nat.zero_le _, by simp, hF0⟩ ⟨rfl, rfl, rfl, rfl, rfl, rfl, rfl, trivial⟩ rfl ⟨rfl, rfl, trivial⟩ (by cases p <;> rfl) rfl ?_
    clear hF0
    rintro ⟨k, U, q⟩ ⟨hk, hUl, hF⟩ ih2
    simp only at hk hUl hF
    refine g_run Tk Tryd.func106 ?_
    first | refine g_cnd Tk Tryd.func106 rfl (fun g2 => ?_) (fun g2 => ?_) | refine g_know Tk Tryd.func106 rfl (fun g2 => ?_) (fun g2 => ?_) | refine s_know Tk (fun g2 => ?_) (fun g2 => ?_)
    · have h3 : k < l.length := by simpa using g2
      clear g2
      have gl : (l.map fun x => [vi x])[(k : Int).toNat]? = some [vi l[k]] := get_mapZ (f := fun x => [vi x]) h3
      have dl : l.drop k = l[k] :: l.drop (k + 1) := List.drop_eq_getElem_cons h3
      have hv := hll.2 _ (List.getElem_mem h3)
      rw [dl] at hF
      simp only [keyL] at hF
      clear dl
      generalize l[k] = n at *
      have hz := itoaB_size hv.1 hv.2
      have hk1 : ii (IntKind.i64.wrap ((k : Int) + 1)) = ii ((k + 1 : Nat) : Int) := congrArg ii (wsucc (n := 4096) (by omega) (by decide))
      first | refine g_need Tk Tryd.func106 (by exact ⟨by omega, by show (k : Int) < (l.length : Int); omega⟩) ?_ | refine s_need Tk (by exact ⟨by omega, by show (k : Int) < (l.length : Int); omega⟩) ?_
      first | refine g_elem Tk Tryd.func106 (gl) ?_ | refine s_elem Tk (gl) ?_
      refine g_callT Tk Tryd.func106 hE (itoa79 hg _ n hv.1 hv.2) rfl rfl rfl rfl rfl rfl ?_
      generalize itoaB n = W at *
      refine g_callP Tk Tryd.func106 rfl rfl rfl rfl (does_ws rfl W U (dp3_or q) (by omega) rfl (show 22 < 28 by decide) rfl rfl rfl (by decide)) ?_
      refine g_callP Tk Tryd.func106 rfl rfl rfl rfl (does_wb rfl 32 (U ++ W.data.toList) (.inr rfl) (by rw [List.length_append, size_list]; omega) rfl (show 23 < 28 by decide) rfl rfl rfl (by decide)) ?_
      refine g_loop ?_
      refine ih2 (k + 1, U ++ W.data.toList ++ [32], true) _ _ ⟨h3, by simp only [List.length_append, size_list, List.length_singleton]; omega, hF⟩ (by simp only; omega) ⟨rfl, rfl, rfl, rfl, rfl, rfl, hk1, trivial⟩ rfl ⟨rfl, rfl, trivial⟩ rfl rfl
    · have h3 : l.length ≤ k := by simpa using g2
      rw [List.drop_eq_nil_of_le h3] at hF
      simp only [keyL] at hF
      subst hF
      refine g_callP Tk Tryd.func106 rfl rfl rfl rfl (does_wb rfl 59 F (dp3_or q) (by omega) rfl (show 25 < 28 by decide) rfl rfl rfl (by decide)) ?_
      refine g_loop ?_
      refine ih (i + 1, F ++ [59], true) _ _ ⟨h2, by simp only [List.length_append, List.length_singleton]; omega, .inr (by simp), hno⟩ (by simp only; omega) ⟨rfl, rfl, rfl, hi1, trivial⟩ rfl ⟨rfl, rfl, trivial⟩ rfl rfl
  · have h2 : ls.length ≤ i := by simpa using g1
    rw [List.drop_eq_nil_of_le h2] at hno
    simp only [keyLs] at hno
    subst hno
    have hT0 : T ≠ [] := hT0.resolve_left (by omega)
    refine g_callP Tk Tryd.func106 rfl rfl rfl rfl (does_bs rfl hT0 rfl (show 27 < 28 by decide) rfl rfl rfl) ?_
    refine g_ret Tk (r := .i (.v (.string ⟨T.toArray⟩))) rfl rfl rfl trivial rfl rfl ?_
    rfl
end Go.AI


/- The small functions of flatten: contains, clone, the closures, At, Locate, Where. -/
namespace Go.AI
open Go.Proofs
set_option maxRecDepth 20000
def idxI (x : Int) : List Int → Nat → Int
  | [], _ => -1
  | y :: r, i => if x = y then i else idxI x r (i + 1)
theorem idxI_iff (x : Int) : ∀ (l : List Int) (i : Nat), idxI x l i ≥ 0 ↔ x ∈ l
  | [], _ => by simp [idxI]
  | y :: r, i => by
    simp only [idxI]
    by_cases h : x = y
    · simp only [if_pos h, h]
      simp
    · simp only [if_neg h]
      rw [idxI_iff x r (i + 1)]
      simp [h]
theorem idxI_mem (x : Int) (l : List Int) (i : Nat) : decide (idxI x l i ≥ 0) = decide (x ∈ l) := decide_eq_decide.2 (idxI_iff x l i)
theorem index156 (O : List Heap) (l : List Int) (x : Int) (hl : l.length ≤ max63) : ASpec Tryd.prog 156 [ints l, ii x] O (ii (idxI x l 0)) [] O := by
  generalize hR : idxI x l 0 = R
  refine aspec_intro Tk Tryd.func156 rfl Tryd.call156 Tryd.ntmps156 (Nat.le_of_ble_eq_true rfl) fun E => ?_
  refine g_run Tk Tryd.func156 ?_
  refine g_loop ?_
  refine rch_loop2 (fun i : Nat => [(0, ints l), (1, ii x), (7, ii l.length), (8, ii i)]) (fun _ => []) (fun _ => O) 19
    (fun i => i ≤ l.length ∧ idxI x (l.drop i) i = R) (fun i => l.length - i) 0 ⟨Nat.zero_le _, hR⟩ ⟨rfl, rfl, rfl, rfl, trivial⟩ rfl trivial rfl rfl ?_
  rintro i ⟨hi, hno⟩ ih
  clear hR
  refine g_run Tk Tryd.func156 ?_
  first | refine g_cnd Tk Tryd.func156 rfl (fun g1 => ?_) (fun g1 => ?_) | refine g_know Tk Tryd.func156 rfl (fun g1 => ?_) (fun g1 => ?_) | refine s_know Tk (fun g1 => ?_) (fun g1 => ?_)
  · have h1 : i < l.length := by simpa using g1
    have gl : (l.map fun x => [vi x])[(i : Int).toNat]? = some [vi l[i]] := get_mapZ (f := fun x => [vi x]) h1
    have dl : l.drop i = l[i] :: l.drop (i + 1) := List.drop_eq_getElem_cons h1
    rw [dl] at hno
    simp only [idxI] at hno
    clear dl
    generalize l[i] = y at *
    first | refine g_need Tk Tryd.func156 (by exact ⟨by omega, by show (i : Int) < (l.length : Int); omega⟩) ?_ | refine s_need Tk (by exact ⟨by omega, by show (i : Int) < (l.length : Int); omega⟩) ?_
    first | refine g_elem Tk Tryd.func156 (gl) ?_ | refine s_elem Tk (gl) ?_
    first | refine g_cnd Tk Tryd.func156 rfl (fun g2 => ?_) (fun g2 => ?_) | refine g_know Tk Tryd.func156 rfl (fun g2 => ?_) (fun g2 => ?_) | refine s_know Tk (fun g2 => ?_) (fun g2 => ?_)
    · have g2 : x = y := beqT g2
      rw [if_pos g2] at hno
      subst hno
      refine g_ret Tk (r := ii (i : Int)) rfl rfl rfl trivial rfl rfl ?_
      rfl
    · have g2 : x ≠ y := beqF g2
      rw [if_neg g2] at hno
      refine g_loop ?_
      exact ih (i + 1) _ _ ⟨h1, hno⟩ (by omega) ⟨rfl, rfl, rfl, congrArg ii (wsucc h1 hl), trivial⟩ rfl trivial rfl rfl
  · have h1 : l.length ≤ i := by simpa using g1
    rw [List.drop_eq_nil_of_le h1] at hno
    simp only [idxI] at hno
    subst hno
    refine g_ret Tk (r := ii (-1)) rfl rfl rfl trivial rfl rfl ?_
    rfl
theorem contains110 (O : List Heap) (l : List Int) (x : Int) (hl : l.length ≤ max63) : ASpec Tryd.prog 110 [ints l, ii x] O (bb (decide (x ∈ l))) [] O := by
  rw [← idxI_mem x l 0]
  have h := fun O => index156 O l x hl
  refine aspec_intro Tk Tryd.func110 rfl Tryd.call110 Tryd.ntmps110 (Nat.le_of_ble_eq_true rfl) fun E => ?_
  refine g_run Tk Tryd.func110 ?_
  first | refine g_call Tk Tryd.func110 (h _) rfl rfl rfl rfl rfl ?_ | refine s_callq Tk (fun _ => h _) rfl rfl rfl ?_
  refine g_ret Tk (r := bb (decide (idxI x l 0 ≥ 0))) rfl rfl rfl trivial rfl rfl ?_
  rfl
theorem clone84 (O : List Heap) (l : List Int) (hl : l.length * 8 ≤ big) : ASpec Tryd.prog 84 [ints l] O (ints l) [] O := by
  refine aspec_intro Tk Tryd.func84 rfl Tryd.call84 Tryd.ntmps84 (Nat.le_of_ble_eq_true rfl) fun E => ?_
  refine g_run Tk Tryd.func84 ?_
  refine g_anyb Tk Tryd.func84 rfl rfl fun b hb => ?_
  first | refine g_cnd Tk Tryd.func84 rfl (fun h1 => ?_) (fun h1 => ?_) | refine g_know Tk Tryd.func84 rfl (fun h1 => ?_) (fun h1 => ?_) | refine s_know Tk (fun h1 => ?_) (fun h1 => ?_)
  · have hl0 : l = [] := List.eq_nil_of_length_eq_zero (hb h1)
    subst hl0
    refine g_ret_co Tk (r := .i (.v (.slice none 0 0))) rfl rfl rfl trivial rfl rfl ?_
    exact coD_i coI_nil
  · first | refine g_need Tk Tryd.func84 (by exact ⟨by show (0 + l.length) * 8 ≤ 140737488355328; simp only [big] at hl; omega, by show 0 + l.length ≤ 9223372036854775807; simp only [big] at hl; omega⟩) ?_ | refine s_need Tk (by exact ⟨by show (0 + l.length) * 8 ≤ 140737488355328; simp only [big] at hl; omega, by show 0 + l.length ≤ 9223372036854775807; simp only [big] at hl; omega⟩) ?_
    refine g_rwk (wk_cut (l := [(2, .osl 0 7)]) (Hv := [(7, .arr 3 1 (0 + l.length) ([] ++ l.map fun x => [vi x]) true)]) ⟨rfl, trivial⟩ rfl ⟨rfl, trivial⟩ rfl rfl) ?_
    rw [Nat.zero_add, List.nil_append]
    refine g_rwk (wk_freeze 7 rfl rfl) ?_
    refine g_ret Tk (r := ints l) rfl rfl rfl trivial rfl rfl ?_
    rfl
/-- The key of a state. -/
def fkey (s : Sta) : ByteArray := fkeyB [[s.loc], s.vals]
structure keyOk (s : Sta) : Prop where
  loc : i64B s.loc
  len : s.vals.length ≤ 4096
  vals : ∀ v ∈ s.vals, i64B v
theorem keyName105 {g : Nat} (hg : IsTab g) {ty : TypeId} {fr : Nat × Nat} (O : List Heap) (s : Sta) (hs : keyOk s) : ASpecT g (ptab ty fr) Tryd.prog 105 [staD s] O (.i (.v (.string (fkey s)))) [] O := by
  have hk := fun O => key106 hg (ty := ty) (fr := fr) O [[s.loc], s.vals] (by simp) (by simp) (by
    intro l hl
    simp only [List.mem_cons, List.mem_nil_iff, or_false] at hl
    rcases hl with rfl | rfl
    · exact ⟨by simp, fun v hv => by simp only [List.mem_singleton] at hv; subst hv; exact hs.loc⟩
    · exact ⟨hs.len, hs.vals⟩)
  unfold fkey
  generalize fkeyB [[s.loc], s.vals] = K at *
  obtain ⟨l, v⟩ := s
  refine aspecT_stop [] Tk Tryd.func105 rfl Tryd.call105 Tryd.ntmps105 (Nat.le_of_ble_eq_true rfl) fun E hE => ?_
  refine g_run Tk Tryd.func105 ?_
  refine g_callT Tk Tryd.func105 hE (hk _) rfl rfl rfl rfl rfl rfl ?_
  refine g_ret Tk (r := .i (.v (.string K))) rfl rfl rfl trivial rfl rfl ?_
  rfl
theorem keyStep107 (O : List Heap) (m : Ext) (s : Sta) (ev : Int) (d nm : Nat) (ho : objAt O d nm = some (.box (extC m))) (hok : extOk m) : ASpec Tryd.prog 107 [staD s, ii ev, .own d nm 0 0] O (.tup [staD (stpR m s ev).1, bb (stpR m s ev).2.1, ii (stpR m s ev).2.2]) [] O := by
  have h := fun O => step31 O m s ev hok
  generalize stpR m s ev = R at *
  obtain ⟨⟨a, b⟩, p, e⟩ := R
  obtain ⟨l, v⟩ := s
  refine aspec_intro Tk Tryd.func107 rfl Tryd.call107 Tryd.ntmps107 (Nat.le_of_ble_eq_true rfl) fun E => ?_
  refine g_run Tk Tryd.func107 ?_
  first | refine g_obj Tk Tryd.func107 (up_obj ho) ?_ | refine s_obj Tk (up_obj ho) ?_
  first | refine g_call Tk Tryd.func107 (h _) rfl rfl rfl rfl rfl ?_ | refine s_callq Tk (fun _ => h _) rfl rfl rfl ?_
  refine g_ret Tk (r := .tup [staD ⟨a, b⟩, bb p, ii e]) rfl rfl rfl trivial rfl rfl ?_
  rfl
theorem keyMark109 (O : List Heap) (m : Ext) (s : Sta) (d nm : Nat) (ho : objAt O d nm = some (.box (extC m))) (hok : extOk m) : ASpec Tryd.prog 109 [staD s, .own d nm 0 0] O (bb (decide (s.loc ∈ m.marked))) [] O := by
  have h := fun O => contains110 O m.marked s.loc hok.ma
  obtain ⟨l, v⟩ := s
  refine aspec_intro Tk Tryd.func109 rfl Tryd.call109 Tryd.ntmps109 (Nat.le_of_ble_eq_true rfl) fun E => ?_
  refine g_run Tk Tryd.func109 ?_
  first | refine g_obj Tk Tryd.func109 (up_obj ho) ?_ | refine s_obj Tk (up_obj ho) ?_
  first | refine g_call Tk Tryd.func109 (h _) rfl rfl rfl rfl rfl ?_ | refine s_callq Tk (fun _ => h _) rfl rfl rfl ?_
  refine g_ret Tk (r := bb (decide (l ∈ m.marked))) rfl rfl rfl trivial rfl rfl ?_
  rfl
end Go.AI


/- flatten.unfold for states of an extended automaton. -/
namespace Go.AI
open Go.Proofs
set_option maxRecDepth 20000
abbrev oedgs (l : List Edg) : Ob := .arr 124 3 l.length (l.map edgI) true
theorem oedgs_app (l : List Edg) (e : Edg) : Ob.arr 124 3 (l.length + 1) (l.map edgI ++ [edgI e]) true = oedgs (l ++ [e]) := by simp
theorem ostas_app2 (l : List Sta) (s : Sta) : Ob.arr 111 2 (l.length + 1) (l.map staI ++ [staI s]) true = ostas (l ++ [s]) := by simp
abbrev keq (a b : Sta) : Bool := fkey a == fkey b
/-- What unfold returns: the error or the states. -/
def unfX (m : Ext) (alpha : List Int) (first : Sta) : Except Int (Unf Sta) := unfR keq true (stpR m) (fun s => decide (s.loc ∈ m.marked)) alpha first
def kidx : List Sta → Nat → List (Value × Int)
  | [], _ => []
  | s :: r, i => (.string (fkey s), (i : Int)) :: kidx r (i + 1)
theorem kidx_look (b : ByteArray) : ∀ (l : List Sta) (i : Nat), mlook (kidx l i) (.string b) = if l.findIdx (fun t => b == fkey t) < l.length then some (((i + l.findIdx fun t => b == fkey t : Nat) : Int)) else none
  | [], i => by simp [kidx, mlook]
  | s :: r, i => by
    simp only [kidx, mlook, keyB, List.findIdx_cons]
    cases h : b == fkey s with
    | true => simp
    | false =>
      simp only [cond_false]
      rw [kidx_look b r (i + 1)]
      have e : i + 1 + r.findIdx (fun t => b == fkey t) = i + (r.findIdx (fun t => b == fkey t) + 1) := by omega
      simp only [e, List.length_cons, Nat.add_lt_add_iff_right]
theorem kidx_set {s : Sta} : ∀ (l : List Sta) (i : Nat), ¬ l.findIdx (keq s) < l.length → mset (kidx l i) (.string (fkey s)) ((i + l.length : Nat) : Int) = kidx (l ++ [s]) i
  | [], i, _ => by simp [kidx, mset]
  | t :: r, i, h => by
    rw [List.findIdx_cons] at h
    cases hk : keq s t with
    | true => rw [hk] at h; simp at h
    | false =>
      rw [hk] at h
      simp only [cond_false, List.length_cons, Nat.add_lt_add_iff_right] at h
      have hk' : (fkey s == fkey t) = false := hk
      simp only [List.cons_append, kidx, mset, keyB, hk', cond_false]
      have e : i + (t :: r).length = (i + 1) + r.length := by simp only [List.length_cons]; omega
      rw [e, kidx_set r (i + 1) h]
theorem stp_okS {m : Ext} {s : Sta} {ev : Int} (hr : extRight m) (h : okS m s) (hp : (stpR m s ev).2.1 = true) : okS m (stpR m s ev).1 := by
  unfold stpR at hp ⊢
  split at hp
  · cases hp
  rename_i h1
  rw [if_neg h1]
  split at hp
  · cases hp
  rename_i h2
  rw [if_neg h2]
  exact step_ok hr h hp
theorem okS_key {m : Ext} {s : Sta} (hr : extRight m) (h : okS m s) : keyOk s := by
  have := okS_bounds hr h
  exact ⟨this.1, by omega, this.2.1⟩
theorem uloop_done {σ : Type} {eq : σ → σ → Bool} {lim : Bool} {step : σ → Int → σ × Bool × Int} {mkd : σ → Bool} {alpha : List Int} {U : Unf σ} {i : Nat} (h : U.sts.length ≤ i) : ∀ k, uloop eq lim step mkd alpha k i U = .ok U
  | 0 => rfl
  | k + 1 => by simp only [uloop, List.getElem?_eq_none h]
/-- What the loops know. -/
structure UGood (m : Ext) (U : Unf Sta) : Prop where
  len : U.sts.length ≤ 4096
  ok : ∀ s ∈ U.sts, okS m s
abbrev fnS (d nm : Nat) : D := .fn (.func 107) [] [.own d nm 0 0]
abbrev fnM (d nm : Nat) : D := .fn (.func 109) [] [.own d nm 0 0]
def unfD (alpha : List Int) : Except Int (Unf Sta) → D
  | .error e => .tup [autD ⟨[], 0, [], []⟩, stasD [], ii e]
  | .ok U => .tup [autD ⟨alpha, U.sts.length, U.mkl, U.eds⟩, stasD U.sts, ii 0]
theorem coErr {e : Int} : CoD (.tup [.agg [.i (.v (.slice none 0 0)), ii 0, .i (.v (.slice none 0 0)), .i (.v (.slice none 0 0))], .i (.v (.slice none 0 0)), ii e]) (unfD [] (.error e)) :=
  coD_tup (.cons (coD_agg (.cons (coD_i coI_nil) (.cons (CoD.refl _) (.cons (coD_i coI_nil) (.cons (coD_i coI_nil) .nil))))) (.cons (coD_i coI_nil) (CoDL.refl _)))
set_option maxHeartbeats 4000000 in
theorem unfold111 {g : Nat} (hg : IsTab g) {ty : TypeId} {fr : Nat × Nat} (O : List Heap) (m : Ext) (alpha : List Int) (first : Sta) (d nm : Nat) (ho : objAt O d nm = some (.box (extC m))) (hok : extOk m) (hr : extRight m) (ha : alpha.length ≤ 4096) (hf : okS m first) :
    ASpecT g (ptab ty fr) Tryd.prog 111 [ints alpha, staD first, .fn (.func 105) [] [], fnS d nm, fnM d nm] O (unfD alpha (unfX m alpha first)) [] O := by
  have hO : ∀ H, objAt (H :: O) (d + 1) nm = some (.box (extC m)) := fun H => up_obj ho
  have hno : unfX m alpha first = uloop keq true (stpR m) (fun s => decide (s.loc ∈ m.marked)) alpha (4097 - 0) 0 (unf0 first) := rfl
  generalize unfX m alpha first = R at *
  have hkf := okS_key hr hf
  refine aspecT_stop [9, 23] Tk Tryd.func111 rfl Tryd.call111 Tryd.ntmps111 (Nat.le_of_ble_eq_true rfl) fun E hE => ?_
  refine g_run Tk Tryd.func111 ?_
  refine g_callT Tk Tryd.func111 hE (keyName105 hg _ first hkf) rfl rfl rfl rfl rfl rfl ?_
  refine g_loop ?_
  refine rch_wk (wk_ren 25 95 rfl rfl rfl) ?_
  refine rch_wk (wk_nilbox2 10 47 3 1 (pre := [ints alpha, ii 0]) (post := [.i (.v (.slice none 0 0))]) rfl rfl rfl) ?_
  refine rch_wk (wk_nilbox2 10 103 124 3 (pre := [ints alpha, ii 0, .osl 0 47]) (post := []) rfl rfl rfl) ?_
  refine rch_loop2 (fun x : Nat × Unf Sta => [(0, ints alpha), (2, .fn (.func 105) [] []), (3, fnS (d + 1) nm), (4, fnM (d + 1) nm), (10, .own 0 10 0 0), (11, .osl 0 95), (13, .osl 0 26), (14, ii x.1)])
    (fun x => [(10, .box [ints alpha, ii 0, .osl 0 47, .osl 0 103]), (95, ostas x.2.sts), (47, oints x.2.mkl), (103, oedgs x.2.eds), (26, .mp .str (.i .i64 (kidx x.2.sts 0)))]) (fun _ => O) 111
    (fun x => x.1 ≤ x.2.sts.length ∧ UGood m x.2 ∧ x.2.mkl.length ≤ x.1 ∧ x.2.eds.length ≤ 4096 * x.1 ∧ R = uloop keq true (stpR m) (fun s => decide (s.loc ∈ m.marked)) alpha (4097 - x.1) x.1 x.2) (fun x => 4097 - x.1) (0, unf0 first)
    ⟨Nat.zero_le _, ⟨by simp [unf0], fun s hs => by rw [unf0, List.mem_singleton] at hs; subst hs; exact hf⟩, Nat.le_refl _, Nat.le_refl _, hno⟩ ⟨rfl, rfl, rfl, rfl, rfl, rfl, rfl, rfl, trivial⟩ rfl ⟨rfl, rfl, rfl, rfl, rfl, trivial⟩ rfl rfl ?_
  clear hno
  rintro ⟨i, U⟩ ⟨hi, hgd, hml, hel, hno⟩ ih
  simp only at hi hgd hml hel hno
  refine g_run Tk Tryd.func111 ?_
  first | refine g_cnd Tk Tryd.func111 rfl (fun g1 => ?_) (fun g1 => ?_) | refine g_know Tk Tryd.func111 rfl (fun g1 => ?_) (fun g1 => ?_) | refine s_know Tk (fun g1 => ?_) (fun g1 => ?_)
  · have h1 : i < U.sts.length := by simpa using g1
    clear g1
    have hle := hgd.len
    have hsi : U.sts[i]? = some U.sts[i] := List.getElem?_eq_getElem h1
    have gs : (U.sts.map staI)[(i : Int).toNat]? = some (staI U.sts[i]) := get_mapZ h1
    have hoks := hgd.ok _ (List.getElem_mem h1)
    generalize U.sts[i] = s at *
    have hno : R = match uvisits keq true (stpR m) i s alpha (umark (fun s => decide (s.loc ∈ m.marked)) i s U) with
        | .error e => .error e
        | .ok U' => uloop keq true (stpR m) (fun s => decide (s.loc ∈ m.marked)) alpha (4097 - (i + 1)) (i + 1) U' := by
      rw [hno, show 4097 - i = (4097 - (i + 1)) + 1 by omega]
      simp only [uloop, hsi]
      cases uvisits keq true (stpR m) i s alpha (umark (fun s => decide (s.loc ∈ m.marked)) i s U) <;> rfl
    have hmk := fun H => keyMark109 (H :: O) m s (d + 1) nm (hO H) hok
    obtain ⟨m1, m2⟩ := umark_sts (fun s : Sta => decide (s.loc ∈ m.marked)) i s U
    have hm3 : (umark (fun s : Sta => decide (s.loc ∈ m.marked)) i s U).mkl = if s.loc ∈ m.marked then U.mkl ++ [(i : Int)] else U.mkl := by
      unfold umark
      by_cases h : s.loc ∈ m.marked <;> simp [h]
    generalize umark (fun s : Sta => decide (s.loc ∈ m.marked)) i s U = U1 at *
    obtain ⟨sts, mkl, eds⟩ := U
    obtain ⟨sts1, mkl1, eds1⟩ := U1
    simp only at *
    subst m1 m2
    obtain ⟨sl, sv⟩ := s
    simp only at *
    first | refine g_need Tk Tryd.func111 (by exact ⟨by omega, by show (i : Int) < (sts1.length : Int); omega⟩) ?_ | refine s_need Tk (by exact ⟨by omega, by show (i : Int) < (sts1.length : Int); omega⟩) ?_
    first | refine g_elem Tk Tryd.func111 (gs) ?_ | refine s_elem Tk (gs) ?_
    first | refine g_call Tk Tryd.func111 (hmk _) rfl rfl rfl rfl rfl ?_ | refine s_callq Tk (fun _ => hmk _) rfl rfl rfl ?_
    apply join_p (P := True) (s6 := { σ := [(0, ints alpha), (2, .fn (.func 105) [] []), (3, fnS (d + 1) nm), (4, fnM (d + 1) nm), (10, .own 0 10 0 0), (11, .osl 0 95), (13, .osl 0 26), (14, ii i)], S := [(10, .box [ints alpha, ii 0, .osl 0 47, .osl 0 103]), (95, ostas sts1), (47, oints mkl1), (103, oedgs eds1), (26, .mp .str (.i .i64 (kidx sts1 0)))] :: O, n := 111 })
    · intro J
      first | refine g_cnd Tk Tryd.func111 rfl (fun c1 => ?_) (fun c1 => ?_) | refine g_know Tk Tryd.func111 rfl (fun c1 => ?_) (fun c1 => ?_) | refine s_know Tk (fun c1 => ?_) (fun c1 => ?_)
      · have c1 : sl ∈ m.marked := of_decide_eq_true c1
        rw [if_pos c1] at hm3
        subst hm3
        first | refine g_need Tk Tryd.func111 (by exact ⟨by show (mkl.length + 1) * 8 ≤ 140737488355328; omega, by show mkl.length + 1 ≤ 9223372036854775807; omega⟩) ?_ | refine s_need Tk (by exact ⟨by show (mkl.length + 1) * 8 ≤ 140737488355328; omega, by show mkl.length + 1 ≤ 9223372036854775807; omega⟩) ?_
        refine g_stop ?_
        refine rch_meet (J trivial) ⟨rfl, rfl, rfl, rfl, rfl, rfl, rfl, rfl, trivial⟩ rfl ⟨rfl, rfl, congrArg some (oints_app mkl (i : Int)), rfl, rfl, trivial⟩ rfl rfl
      · have c1 : sl ∉ m.marked := of_decide_eq_false c1
        rw [if_neg c1] at hm3
        subst hm3
        refine g_stop ?_
        refine rch_meet (J trivial) ⟨rfl, rfl, rfl, rfl, rfl, rfl, rfl, rfl, trivial⟩ rfl ⟨rfl, rfl, rfl, rfl, rfl, trivial⟩ rfl rfl
    intro _
    have hml1 : mkl1.length ≤ i + 1 := by rw [hm3]; split; (rw [List.length_append, List.length_singleton]; omega); omega
    clear hm3 hml hmk gs
    have hV0 : uvisits keq true (stpR m) i ⟨sl, sv⟩ alpha ⟨sts1, mkl1, eds1⟩ = uvisits keq true (stpR m) i ⟨sl, sv⟩ (alpha.drop 0) ⟨sts1, mkl1, eds1⟩ := rfl
    generalize uvisits keq true (stpR m) i ⟨sl, sv⟩ alpha ⟨sts1, mkl1, eds1⟩ = V at *
    refine g_run Tk Tryd.func111 ?_
    refine g_go Tk Tryd.func111 ?_
    refine g_loop ?_
    refine rch_loop2 (fun x : Nat × Unf Sta => [(0, ints alpha), (2, .fn (.func 105) [] []), (3, fnS (d + 1) nm), (4, fnM (d + 1) nm), (10, .own 0 10 0 0), (11, .osl 0 95), (13, .osl 0 26), (14, ii i), (49, ints alpha), (50, ii alpha.length), (51, ii x.1)])
      (fun x => [(10, .box [ints alpha, ii 0, .osl 0 47, .osl 0 103]), (95, ostas x.2.sts), (47, oints x.2.mkl), (103, oedgs x.2.eds), (26, .mp .str (.i .i64 (kidx x.2.sts 0)))]) (fun _ => O) 111
      (fun x => x.1 ≤ alpha.length ∧ UGood m x.2 ∧ i < x.2.sts.length ∧ x.2.mkl.length ≤ i + 1 ∧ x.2.eds.length ≤ 4096 * i + x.1 ∧ x.2.sts[i]? = some ⟨sl, sv⟩ ∧ V = uvisits keq true (stpR m) i ⟨sl, sv⟩ (alpha.drop x.1) x.2) (fun x => alpha.length - x.1) (0, ⟨sts1, mkl1, eds1⟩)
      ⟨Nat.zero_le _, ⟨hgd.len, hgd.ok⟩, h1, hml1, hel, hsi, hV0⟩ ⟨rfl, rfl, rfl, rfl, rfl, rfl, rfl, rfl, rfl, rfl, rfl, trivial⟩ rfl ⟨rfl, rfl, rfl, rfl, rfl, trivial⟩ rfl rfl ?_
    clear hV0 hsi hml1 hel hgd hle
    rintro ⟨j, ⟨sts, mk, eds⟩⟩ ⟨hj, hgd, hil, hml, hel, hsi, hV⟩ ih2
    simp only at hj hgd hil hml hel hsi hV
    have hle : sts.length ≤ 4096 := hgd.len
    refine g_run Tk Tryd.func111 ?_
    first | refine g_cnd Tk Tryd.func111 rfl (fun g2 => ?_) (fun g2 => ?_) | refine g_know Tk Tryd.func111 rfl (fun g2 => ?_) (fun g2 => ?_) | refine s_know Tk (fun g2 => ?_) (fun g2 => ?_)
    · have h3 : j < alpha.length := by simpa using g2
      clear g2
      have ga : (alpha.map fun x => [vi x])[(j : Int).toNat]? = some [vi alpha[j]] := get_mapZ (f := fun x => [vi x]) h3
      have da : alpha.drop j = alpha[j] :: alpha.drop (j + 1) := List.drop_eq_getElem_cons h3
      rw [da] at hV
      simp only [uvisits] at hV
      clear da
      generalize alpha[j] = ev at *
      have gs : (sts.map staI)[(i : Int).toNat]? = some (staI ⟨sl, sv⟩) := by simp [hsi]
      have hst := fun H => keyStep107 (H :: O) m ⟨sl, sv⟩ ev (d + 1) nm (hO H) hok
      have hokn := @stp_okS m ⟨sl, sv⟩ ev hr hoks
      have hj1 : ii (IntKind.i64.wrap ((j : Int) + 1)) = ii ((j + 1 : Nat) : Int) := congrArg ii (wsucc (n := 4096) (by omega) (by decide))
      unfold uvisit at hV
      generalize stpR m ⟨sl, sv⟩ ev = N at *
      obtain ⟨⟨nl, nv⟩, np, ne⟩ := N
      simp only at hV hst hokn
      first | refine g_need Tk Tryd.func111 (by exact ⟨by omega, by show (j : Int) < (alpha.length : Int); omega⟩) ?_ | refine s_need Tk (by exact ⟨by omega, by show (j : Int) < (alpha.length : Int); omega⟩) ?_
      first | refine g_elem Tk Tryd.func111 (ga) ?_ | refine s_elem Tk (ga) ?_
      first | refine g_need Tk Tryd.func111 (by exact ⟨by omega, by show (i : Int) < (sts.length : Int); omega⟩) ?_ | refine s_need Tk (by exact ⟨by omega, by show (i : Int) < (sts.length : Int); omega⟩) ?_
      first | refine g_elem Tk Tryd.func111 (gs) ?_ | refine s_elem Tk (gs) ?_
      first | refine g_call Tk Tryd.func111 (hst _) rfl rfl rfl rfl rfl ?_ | refine s_callq Tk (fun _ => hst _) rfl rfl rfl ?_
      first | refine g_cnd Tk Tryd.func111 rfl (fun c1 => ?_) (fun c1 => ?_) | refine g_know Tk Tryd.func111 rfl (fun c1 => ?_) (fun c1 => ?_) | refine s_know Tk (fun c1 => ?_) (fun c1 => ?_)
      · have c1 : ne ≠ 0 := bneT c1
        rw [if_pos c1] at hV
        subst hV
        simp only at hno
        subst hno
        refine g_ret_co Tk (r := _) rfl rfl rfl trivial rfl rfl ?_
        exact coErr
      have c1 : ne = 0 := bneF c1
      rw [if_neg (by simpa using c1)] at hV
      first | refine g_cnd Tk Tryd.func111 rfl (fun c2 => ?_) (fun c2 => ?_) | refine g_know Tk Tryd.func111 rfl (fun c2 => ?_) (fun c2 => ?_) | refine s_know Tk (fun c2 => ?_) (fun c2 => ?_)
      · have c2 : np = false := notT c2
        rw [if_pos c2] at hV
        refine g_loop ?_
        exact ih2 (j + 1, ⟨sts, mk, eds⟩) _ _ ⟨h3, hgd, hil, hml, by simp only; omega, hsi, hV⟩ (by simp only; omega) ⟨rfl, rfl, rfl, rfl, rfl, rfl, rfl, rfl, rfl, rfl, hj1, trivial⟩ rfl ⟨rfl, rfl, rfl, rfl, rfl, trivial⟩ rfl rfl
      have c2 : np = true := notF c2
      rw [if_neg (by rw [c2]; simp)] at hV
      have hon := hokn c2
      have hkn := okS_key hr hon
      have hlk := kidx_look (fkey ⟨nl, nv⟩) sts 0
      have hks := @kidx_set ⟨nl, nv⟩ sts 0
      rw [Nat.zero_add] at hks
      rw [Nat.zero_add] at hlk
      have hix : sts.findIdx (keq ⟨nl, nv⟩) ≤ sts.length := findIdx_le
      have hlk : mlook (kidx sts 0) (.string (fkey ⟨nl, nv⟩)) = if sts.findIdx (keq ⟨nl, nv⟩) < sts.length then some ((sts.findIdx (keq ⟨nl, nv⟩) : Nat) : Int) else none := hlk
      generalize sts.findIdx (keq ⟨nl, nv⟩) = t at *
      refine g_callT Tk Tryd.func111 hE (keyName105 hg _ ⟨nl, nv⟩ hkn) rfl rfl rfl rfl rfl rfl ?_
      generalize hst2 : (if t < sts.length then sts else sts ++ [(⟨nl, nv⟩ : Sta)]) = sts2
      apply join_p (P := t < sts.length ∨ sts.length ≠ 4096) (s6 := { σ := [(0, ints alpha), (2, .fn (.func 105) [] []), (3, fnS (d + 1) nm), (4, fnM (d + 1) nm), (10, .own 0 10 0 0), (11, .osl 0 95), (13, .osl 0 26), (14, ii i), (16, ii ev), (20, ii t), (49, ints alpha), (50, ii alpha.length), (51, ii j)], S := [(10, .box [ints alpha, ii 0, .osl 0 47, .osl 0 103]), (95, ostas sts2), (47, oints mk), (103, oedgs eds), (26, .mp .str (.i .i64 (kidx sts2 0)))] :: O, n := 111 })
      · intro J
        first | refine g_cnd Tk Tryd.func111 rfl (fun c3 => ?_) (fun c3 => ?_) | refine g_know Tk Tryd.func111 rfl (fun c3 => ?_) (fun c3 => ?_) | refine s_know Tk (fun c3 => ?_) (fun c3 => ?_)
        · have c3 : mhas (kidx sts 0) (.string (fkey ⟨nl, nv⟩)) = false := notT c3
          have hlt : ¬ t < sts.length := fun h => by
            unfold mhas at c3
            rw [hlk, if_pos h] at c3
            cases c3
          have hte : t = sts.length := by omega
          rw [if_neg hlt] at hst2 hV
          have hks := hks hlt
          first | refine g_cnd Tk Tryd.func111 rfl (fun c4 => ?_) (fun c4 => ?_) | refine g_know Tk Tryd.func111 rfl (fun c4 => ?_) (fun c4 => ?_) | refine s_know Tk (fun c4 => ?_) (fun c4 => ?_)
          · have c4 : ((sts.length : Nat) : Int) = 4096 := beqT c4
            have c4 : sts.length = 4096 := by omega
            rw [if_pos ⟨trivial, c4⟩] at hV
            subst hV
            simp only at hno
            subst hno
            refine g_ret_co Tk (r := _) rfl rfl rfl trivial rfl rfl ?_
            exact coErr
          have c4 : ((sts.length : Nat) : Int) ≠ 4096 := beqF c4
          have c4 : sts.length ≠ 4096 := by omega
          refine g_callT Tk Tryd.func111 hE (keyName105 hg _ ⟨nl, nv⟩ hkn) rfl rfl rfl rfl rfl rfl ?_
          first | refine g_need Tk Tryd.func111 (by exact ⟨by show (sts.length + 1) * 32 ≤ 140737488355328; omega, by show sts.length + 1 ≤ 9223372036854775807; omega⟩) ?_ | refine s_need Tk (by exact ⟨by show (sts.length + 1) * 32 ≤ 140737488355328; omega, by show sts.length + 1 ≤ 9223372036854775807; omega⟩) ?_
          subst hst2
          refine g_stop ?_
          refine rch_meet (J (.inr c4)) ⟨rfl, rfl, rfl, rfl, rfl, rfl, rfl, rfl, rfl, by rw [hte]; rfl, rfl, rfl, rfl, trivial⟩ rfl ⟨rfl, congrArg some (ostas_app2 sts (⟨nl, nv⟩ : Sta)), rfl, rfl, congrArg (fun l => some (Ob.mp .str (.i .i64 l))) hks, trivial⟩ rfl rfl
        · have c3 : mhas (kidx sts 0) (.string (fkey ⟨nl, nv⟩)) = true := notF c3
          have hlt : t < sts.length := Classical.byContradiction fun h => by
            unfold mhas at c3
            rw [hlk, if_neg h] at c3
            cases c3
          rw [if_pos hlt] at hst2 hlk
          subst hst2
          refine g_stop ?_
          refine rch_meet (J (.inl hlt)) ⟨rfl, rfl, rfl, rfl, rfl, rfl, rfl, rfl, rfl, by show ii (mgetI (kidx sts 0) (.string (fkey ⟨nl, nv⟩))) = _; unfold mgetI; rw [hlk]; rfl, rfl, rfl, rfl, trivial⟩ rfl ⟨rfl, rfl, rfl, rfl, rfl, trivial⟩ rfl rfl
      · intro hP
        have hV : V = uvisits keq true (stpR m) i ⟨sl, sv⟩ (alpha.drop (j + 1)) ⟨sts2, mk, eds ++ [((i : Int), ev, (t : Int))]⟩ := by
          rw [hV]
          by_cases hlt : t < sts.length
          · rw [if_pos hlt] at hst2 ⊢
            subst hst2
            rfl
          · rw [if_neg hlt] at hst2 ⊢
            rw [if_neg (by rintro ⟨_, h⟩; rcases hP with h' | h'; exact hlt h'; exact h' h)]
            subst hst2
            rfl
        have hg2 : UGood m ⟨sts2, mk, eds ++ [((i : Int), ev, (t : Int))]⟩ := by
          by_cases hlt : t < sts.length
          · rw [if_pos hlt] at hst2
            subst hst2
            exact ⟨hgd.len, hgd.ok⟩
          · rw [if_neg hlt] at hst2
            subst hst2
            refine ⟨?_, fun x hx => ?_⟩
            · show (sts ++ [(⟨nl, nv⟩ : Sta)]).length ≤ 4096
              rw [List.length_append, List.length_singleton]
              rcases hP with h' | h'
              · exact absurd h' hlt
              · omega
            · rcases List.mem_append.1 hx with hx | hx
              · exact hgd.ok x hx
              · rw [List.mem_singleton] at hx
                subst hx
                exact hon
        have hi2 : i < sts2.length ∧ sts2[i]? = some ⟨sl, sv⟩ := by
          by_cases hlt : t < sts.length
          · rw [if_pos hlt] at hst2
            subst hst2
            exact ⟨hil, hsi⟩
          · rw [if_neg hlt] at hst2
            subst hst2
            refine ⟨by rw [List.length_append]; omega, ?_⟩
            rw [List.getElem?_append_left hil]
            exact hsi
        have hi4 : i < 4096 := by omega
        clear hst2 hst hlk hks hgd hil hsi
        refine g_run Tk Tryd.func111 ?_
        refine g_go Tk Tryd.func111 ?_
        first | refine g_need Tk Tryd.func111 (by exact ⟨by show (eds.length + 1) * 24 ≤ 140737488355328; omega, by show eds.length + 1 ≤ 9223372036854775807; omega⟩) ?_ | refine s_need Tk (by exact ⟨by show (eds.length + 1) * 24 ≤ 140737488355328; omega, by show eds.length + 1 ≤ 9223372036854775807; omega⟩) ?_
        refine g_loop ?_
        exact ih2 (j + 1, ⟨sts2, mk, eds ++ [((i : Int), ev, (t : Int))]⟩) _ _ ⟨h3, hg2, hi2.1, hml, by simp only [List.length_append, List.length_singleton]; omega, hi2.2, hV⟩ (by simp only; omega) ⟨rfl, rfl, rfl, rfl, rfl, rfl, rfl, rfl, rfl, rfl, hj1, trivial⟩ rfl ⟨rfl, rfl, rfl, congrArg some (oedgs_app eds ((i : Int), ev, (t : Int))), rfl, trivial⟩ rfl rfl
    · have h3 : alpha.length ≤ j := by simpa using g2
      rw [List.drop_eq_nil_of_le h3] at hV
      simp only [uvisits] at hV
      subst hV
      simp only at hno
      have hja : j ≤ 4096 := by omega
      refine g_loop ?_
      exact ih (i + 1, ⟨sts, mk, eds⟩) _ _ ⟨by simp only; omega, hgd, hml, by simp only; omega, hno⟩ (by simp only; omega) ⟨rfl, rfl, rfl, rfl, rfl, rfl, rfl, congrArg ii (wsucc (n := 4096) (by omega) (by decide)), trivial⟩ rfl ⟨rfl, rfl, rfl, rfl, rfl, trivial⟩ rfl rfl
  · have h1 : U.sts.length ≤ i := by simpa using g1
    rw [uloop_done h1] at hno
    subst hno
    obtain ⟨sts, mk, eds⟩ := U
    refine g_rwk (wk_freeze 95 rfl rfl) ?_
    refine g_rwk (wk_freeze 47 rfl rfl) ?_
    refine g_rwk (wk_freeze 103 rfl rfl) ?_
    refine g_rwk (wk_imm rfl) ?_
    refine g_ret Tk (r := unfD alpha (.ok ⟨sts, mk, eds⟩)) rfl rfl rfl trivial rfl rfl ?_
    rfl
end Go.AI


/- flatten.Unfold. -/
namespace Go.AI
open Go.Proofs
set_option maxRecDepth 20000
def unfoldR (m : Ext) : Except Int (Unf Sta) := if chk m ≠ 0 then .error (chk m) else unfX m m.alpha (startR m)
theorem Unfold50 {g : Nat} (hg : IsTab g) {ty : TypeId} {fr : Nat × Nat} (O : List Heap) (m : Ext) (hok : extOk m) : ASpecT g (ptab ty fr) Tryd.prog 50 [extD m] O (unfD m.alpha (unfoldR m)) [] O := by
  have hb := fun O => begin20 O m hok
  unfold begR at hb
  unfold unfoldR
  by_cases h1 : chk m ≠ 0
  · simp only [if_pos h1] at hb ⊢
    refine aspecT_stop [] Tk Tryd.func50 rfl Tryd.call50 Tryd.ntmps50 (Nat.le_of_ble_eq_true rfl) fun E hE => ?_
    refine g_run Tk Tryd.func50 ?_
    first | refine g_call Tk Tryd.func50 (hb _) rfl rfl rfl rfl rfl ?_ | refine s_callq Tk (fun _ => hb _) rfl rfl rfl ?_
    first | refine g_cnd Tk Tryd.func50 rfl (fun h2 => ?_) (fun h2 => ?_) | refine g_know Tk Tryd.func50 rfl (fun h2 => ?_) (fun h2 => ?_) | refine s_know Tk (fun h2 => ?_) (fun h2 => ?_)
    rotate_left
    · exact absurd (bneF h2) h1
    refine g_ret_co Tk (r := _) rfl rfl rfl trivial rfl rfl ?_
    exact coErr
  · have h1 : chk m = 0 := Classical.byContradiction h1
    have hr := chk_right h1
    have hal := checkSet_len (by decide) hr.alpha
    simp only [h1, ne_eq, not_true_eq_false, if_false] at hb ⊢
    have hcl := fun O => clone84 O m.alpha (by simp only [big]; omega)
    have hun := fun O ho => unfold111 hg (ty := ty) (fr := fr) O m m.alpha (startR m) 0 1 ho hok hr (by omega) (start_ok hr)
    generalize unfX m m.alpha (startR m) = R at *
    generalize startR m = st at *
    obtain ⟨sl, sv⟩ := st
    cases R with
    | error e =>
      refine aspecT_stop [] Tk Tryd.func50 rfl Tryd.call50 Tryd.ntmps50 (Nat.le_of_ble_eq_true rfl) fun E hE => ?_
      refine g_run Tk Tryd.func50 ?_
      first | refine g_call Tk Tryd.func50 (hb _) rfl rfl rfl rfl rfl ?_ | refine s_callq Tk (fun _ => hb _) rfl rfl rfl ?_
      repeat (first | refine g_cnd Tk Tryd.func50 rfl (fun _ => ?_) (fun h => absurd h (by decide)) | refine g_know Tk Tryd.func50 rfl (fun _ => ?_) (fun h => absurd h (by decide)) | refine s_know Tk (fun _ => ?_) (fun h => absurd h (by decide)) | refine g_cnd Tk Tryd.func50 rfl (fun h => absurd h (by decide)) (fun _ => ?_) | refine g_know Tk Tryd.func50 rfl (fun h => absurd h (by decide)) (fun _ => ?_) | refine s_know Tk (fun h => absurd h (by decide)) (fun _ => ?_) | refine g_cnd Tk Tryd.func50 rfl (fun _ => ?_) (fun h => absurd (show true = false from h) (by decide)) | refine g_know Tk Tryd.func50 rfl (fun _ => ?_) (fun h => absurd (show true = false from h) (by decide)) | refine s_know Tk (fun _ => ?_) (fun h => absurd (show true = false from h) (by decide)) | refine g_cnd Tk Tryd.func50 rfl (fun h => absurd (show false = true from h) (by decide)) (fun _ => ?_) | refine g_know Tk Tryd.func50 rfl (fun h => absurd (show false = true from h) (by decide)) (fun _ => ?_) | refine s_know Tk (fun h => absurd (show false = true from h) (by decide)) (fun _ => ?_))
      refine g_drawn Tk Tryd.func50 mixedT rfl ?_
      first | refine g_call Tk Tryd.func50 (hcl _) rfl rfl rfl rfl rfl ?_ | refine s_callq Tk (fun _ => hcl _) rfl rfl rfl ?_
      refine s_callT Tk hE (hun _ rfl) rfl rfl rfl rfl ?_
      refine s_put Tk rfl rfl rfl ?_
      refine e_done Tk Tryd.func50 (by kernel_rfl) ?_
      refine g_ret_co Tk (r := _) rfl rfl rfl trivial rfl rfl ?_
      exact CoD.refl _
    | ok U =>
      obtain ⟨us, um, ue⟩ := U
      refine aspecT_stop [] Tk Tryd.func50 rfl Tryd.call50 Tryd.ntmps50 (Nat.le_of_ble_eq_true rfl) fun E hE => ?_
      refine g_run Tk Tryd.func50 ?_
      first | refine g_call Tk Tryd.func50 (hb _) rfl rfl rfl rfl rfl ?_ | refine s_callq Tk (fun _ => hb _) rfl rfl rfl ?_
      repeat (first | refine g_cnd Tk Tryd.func50 rfl (fun _ => ?_) (fun h => absurd h (by decide)) | refine g_know Tk Tryd.func50 rfl (fun _ => ?_) (fun h => absurd h (by decide)) | refine s_know Tk (fun _ => ?_) (fun h => absurd h (by decide)) | refine g_cnd Tk Tryd.func50 rfl (fun h => absurd h (by decide)) (fun _ => ?_) | refine g_know Tk Tryd.func50 rfl (fun h => absurd h (by decide)) (fun _ => ?_) | refine s_know Tk (fun h => absurd h (by decide)) (fun _ => ?_) | refine g_cnd Tk Tryd.func50 rfl (fun _ => ?_) (fun h => absurd (show true = false from h) (by decide)) | refine g_know Tk Tryd.func50 rfl (fun _ => ?_) (fun h => absurd (show true = false from h) (by decide)) | refine s_know Tk (fun _ => ?_) (fun h => absurd (show true = false from h) (by decide)) | refine g_cnd Tk Tryd.func50 rfl (fun h => absurd (show false = true from h) (by decide)) (fun _ => ?_) | refine g_know Tk Tryd.func50 rfl (fun h => absurd (show false = true from h) (by decide)) (fun _ => ?_) | refine s_know Tk (fun h => absurd (show false = true from h) (by decide)) (fun _ => ?_))
      refine g_drawn Tk Tryd.func50 mixedT rfl ?_
      first | refine g_call Tk Tryd.func50 (hcl _) rfl rfl rfl rfl rfl ?_ | refine s_callq Tk (fun _ => hcl _) rfl rfl rfl ?_
      refine s_callT Tk hE (hun _ rfl) rfl rfl rfl rfl ?_
      refine s_put Tk rfl rfl rfl ?_
      refine e_done Tk Tryd.func50 (by kernel_rfl) ?_
      refine g_ret_co Tk (r := _) rfl rfl rfl trivial rfl rfl ?_
      exact CoD.refl _
end Go.AI


/- flatten.Locate, At, Where. -/
namespace Go.AI
open Go.Proofs
set_option maxRecDepth 20000
def ckAll (m : Ext) : List Sta → Int
  | [] => 0
  | s :: r => if ckS m s ≠ 0 then ckS m s else ckAll m r
def whL (x : Ex) : List Sta → Nat → List Int → List Int × Int
  | [], _, acc => (acc, 0)
  | s :: r, i, acc => if (evalX x s.vals).2 ≠ 0 then ([], (evalX x s.vals).2) else whL x r (i + 1) (if (evalX x s.vals).1 = 1 then acc ++ [(i : Int)] else acc)
def whereR (m : Ext) (l : List Sta) (x : Ex) : List Int × Int :=
  if chk m ≠ 0 then ([], chk m) else if ckAll m l ≠ 0 then ([], ckAll m l) else if (checkX x m.vars.length).2 ≠ 0 then ([], (checkX x m.vars.length).2) else if (checkX x m.vars.length).1 ≠ 2 then ([], 16) else whL x l 0 []
theorem coNil2 {e : Int} : CoD (.tup [.i (.v (.slice none 0 0)), ii e]) (.tup [ints [], ii e]) := coD_tup (.cons (coD_i coI_nil) (CoDL.refl _))
theorem where52 (O : List Heap) (m : Ext) (l : List Sta) (x : Ex) (hok : extOk m) (hx : exOk x) (hl : l.length ≤ 1000000) (hv : ∀ s ∈ l, s.vals.length ≤ max63) : ASpec Tryd.prog 52 [extD m, stasD l, exA x] O (.tup [ints (whereR m l x).1, ii (whereR m l x).2]) [] O := by
  generalize hR : whereR m l x = R
  unfold whereR at hR
  have hck := fun O => check40 O m hok
  refine aspec_intro Tk Tryd.func52 rfl Tryd.call52 Tryd.ntmps52 (Nat.le_of_ble_eq_true rfl) fun E => ?_
  refine g_run Tk Tryd.func52 ?_
  first | refine g_call Tk Tryd.func52 (hck _) rfl rfl rfl rfl rfl ?_ | refine s_callq Tk (fun _ => hck _) rfl rfl rfl ?_
  first | refine g_cnd Tk Tryd.func52 rfl (fun g0 => ?_) (fun g0 => ?_) | refine g_know Tk Tryd.func52 rfl (fun g0 => ?_) (fun g0 => ?_) | refine s_know Tk (fun g0 => ?_) (fun g0 => ?_)
  · have g0 : chk m ≠ 0 := bneT g0
    rw [if_pos g0] at hR
    subst hR
    refine g_ret_co Tk (r := _) rfl rfl rfl trivial rfl rfl ?_
    exact coNil2
  have g0 : chk m = 0 := bneF g0
  rw [if_neg (by simpa using g0)] at hR
  clear hck
  have hC0 : ckAll m l = ckAll m (l.drop 0) := rfl
  generalize ckAll m l = C at *
  refine g_loop ?_
  refine rch_loop2 (fun i : Nat => [(1, stasD l), (3, .own 0 3 0 0), (5, .own 0 5 0 0), (24, stasD l), (25, ii l.length), (26, ii i)]) (fun _ => [(3, .box (extC m)), (5, .box [ii x.op, ii x.vl, ii x.ix, exs x.args])]) (fun _ => O) 75
    (fun i => i ≤ l.length ∧ C = ckAll m (l.drop i)) (fun i => l.length - i) 0 ⟨Nat.zero_le _, hC0⟩ ⟨rfl, rfl, rfl, rfl, rfl, rfl, trivial⟩ rfl ⟨rfl, rfl, trivial⟩ rfl rfl ?_
  clear hC0
  rintro i ⟨hi, hC⟩ ih
  refine g_run Tk Tryd.func52 ?_
  first | refine g_cnd Tk Tryd.func52 rfl (fun g1 => ?_) (fun g1 => ?_) | refine g_know Tk Tryd.func52 rfl (fun g1 => ?_) (fun g1 => ?_) | refine s_know Tk (fun g1 => ?_) (fun g1 => ?_)
  · have h1 : i < l.length := by simpa using g1
    have gs : (l.map staI)[(i : Int).toNat]? = some (staI l[i]) := get_mapZ h1
    have hd : l.drop i = l[i] :: l.drop (i + 1) := List.drop_eq_getElem_cons h1
    rw [hd] at hC
    simp only [ckAll] at hC
    clear hd
    generalize l[i] = s at *
    have hcs := fun O => checkState28 O m s hok
    generalize ckS m s = e at *
    obtain ⟨sl, sv⟩ := s
    have hi1 : ii (IntKind.i64.wrap ((i : Int) + 1)) = ii ((i + 1 : Nat) : Int) := congrArg ii (wsucc (n := 1000000) (by omega) (by decide))
    first | refine g_need Tk Tryd.func52 (by exact ⟨by omega, by show (i : Int) < (l.length : Int); omega⟩) ?_ | refine s_need Tk (by exact ⟨by omega, by show (i : Int) < (l.length : Int); omega⟩) ?_
    first | refine g_elem Tk Tryd.func52 (gs) ?_ | refine s_elem Tk (gs) ?_
    first | refine g_call Tk Tryd.func52 (hcs _) rfl rfl rfl rfl rfl ?_ | refine s_callq Tk (fun _ => hcs _) rfl rfl rfl ?_
    first | refine g_cnd Tk Tryd.func52 rfl (fun g2 => ?_) (fun g2 => ?_) | refine g_know Tk Tryd.func52 rfl (fun g2 => ?_) (fun g2 => ?_) | refine s_know Tk (fun g2 => ?_) (fun g2 => ?_)
    · have g2 : e ≠ 0 := bneT g2
      rw [if_pos g2] at hC
      subst hC
      rw [if_pos g2] at hR
      subst hR
      refine g_ret_co Tk (r := _) rfl rfl rfl trivial rfl rfl ?_
      exact coNil2
    · have g2 : e = 0 := bneF g2
      rw [if_neg (by simpa using g2)] at hC
      refine g_loop ?_
      exact ih (i + 1) _ _ ⟨h1, hC⟩ (by omega) ⟨rfl, rfl, rfl, rfl, rfl, hi1, trivial⟩ rfl ⟨rfl, rfl, trivial⟩ rfl rfl
  clear ih
  have h1 : l.length ≤ i := by simpa using g1
  rw [List.drop_eq_nil_of_le h1] at hC
  simp only [ckAll] at hC
  subst hC
  rw [if_neg (by simp)] at hR
  clear g1 h1 hi
  have hch := fun O => check67A O x m.vars.length hx
  generalize checkX x m.vars.length = Q at *
  obtain ⟨qk, qe⟩ := Q
  simp only at hR hch
  first | refine g_call Tk Tryd.func52 (hch _) rfl rfl rfl rfl rfl ?_ | refine s_callq Tk (fun _ => hch _) rfl rfl rfl ?_
  first | refine g_cnd Tk Tryd.func52 rfl (fun g1 => ?_) (fun g1 => ?_) | refine g_know Tk Tryd.func52 rfl (fun g1 => ?_) (fun g1 => ?_) | refine s_know Tk (fun g1 => ?_) (fun g1 => ?_)
  · have g1 : qe ≠ 0 := bneT g1
    rw [if_pos g1] at hR
    subst hR
    refine g_ret_co Tk (r := _) rfl rfl rfl trivial rfl rfl ?_
    exact coNil2
  have g1 : qe = 0 := bneF g1
  rw [if_neg (by simpa using g1)] at hR
  first | refine g_cnd Tk Tryd.func52 rfl (fun g2 => ?_) (fun g2 => ?_) | refine g_know Tk Tryd.func52 rfl (fun g2 => ?_) (fun g2 => ?_) | refine s_know Tk (fun g2 => ?_) (fun g2 => ?_)
  · have g2 : qk ≠ 2 := bneT g2
    rw [if_pos g2] at hR
    subst hR
    refine g_ret_co Tk (r := _) rfl rfl rfl trivial rfl rfl ?_
    exact coNil2
  have g2 : qk = 2 := bneF g2
  rw [if_neg (by simpa using g2)] at hR
  have hR0 : R = whL x (l.drop 0) 0 [] := hR.symm
  clear hR hch
  refine g_loop ?_
  refine rch_wk (wk_nil 14 72 3 1 rfl rfl rfl) ?_
  refine rch_loop2 (fun y : Nat × List Int => [(5, .own 0 5 0 0), (14, .osl 0 72), (50, stasD l), (51, ii l.length), (52, ii y.1)]) (fun y => [(5, .box [ii x.op, ii x.vl, ii x.ix, exs x.args]), (72, oints y.2)]) (fun _ => O) 75
    (fun y => y.1 ≤ l.length ∧ y.2.length ≤ y.1 ∧ R = whL x (l.drop y.1) y.1 y.2) (fun y => l.length - y.1) (0, []) ⟨Nat.zero_le _, Nat.le_refl _, hR0⟩ ⟨rfl, rfl, rfl, rfl, rfl, trivial⟩ rfl ⟨rfl, rfl, trivial⟩ rfl rfl ?_
  clear hR0
  rintro ⟨i, acc⟩ ⟨hi, hac, hno⟩ ih
  simp only at hi hac hno
  refine g_run Tk Tryd.func52 ?_
  first | refine g_cnd Tk Tryd.func52 rfl (fun g3 => ?_) (fun g3 => ?_) | refine g_know Tk Tryd.func52 rfl (fun g3 => ?_) (fun g3 => ?_) | refine s_know Tk (fun g3 => ?_) (fun g3 => ?_)
  · have h1 : i < l.length := by simpa using g3
    have gs : (l.map staI)[(i : Int).toNat]? = some (staI l[i]) := get_mapZ h1
    have hvi := hv _ (List.getElem_mem h1)
    have hd : l.drop i = l[i] :: l.drop (i + 1) := List.drop_eq_getElem_cons h1
    rw [hd] at hno
    simp only [whL] at hno
    clear hd
    generalize l[i] = s at *
    obtain ⟨sl, sv⟩ := s
    simp only at hno hvi
    have hev := fun O => evaluate51A O x sv hx hvi
    generalize evalX x sv = V at *
    obtain ⟨v, ve⟩ := V
    simp only at hno hev
    have hi1 : ii (IntKind.i64.wrap ((i : Int) + 1)) = ii ((i + 1 : Nat) : Int) := congrArg ii (wsucc (n := 1000000) (by omega) (by decide))
    first | refine g_need Tk Tryd.func52 (by exact ⟨by omega, by show (i : Int) < (l.length : Int); omega⟩) ?_ | refine s_need Tk (by exact ⟨by omega, by show (i : Int) < (l.length : Int); omega⟩) ?_
    first | refine g_elem Tk Tryd.func52 (gs) ?_ | refine s_elem Tk (gs) ?_
    first | refine g_call Tk Tryd.func52 (hev _) rfl rfl rfl rfl rfl ?_ | refine s_callq Tk (fun _ => hev _) rfl rfl rfl ?_
    first | refine g_cnd Tk Tryd.func52 rfl (fun g4 => ?_) (fun g4 => ?_) | refine g_know Tk Tryd.func52 rfl (fun g4 => ?_) (fun g4 => ?_) | refine s_know Tk (fun g4 => ?_) (fun g4 => ?_)
    · have g4 : ve ≠ 0 := bneT g4
      rw [if_pos g4] at hno
      subst hno
      refine g_ret_co Tk (r := _) rfl rfl rfl trivial rfl rfl ?_
      exact coNil2
    have g4 : ve = 0 := bneF g4
    rw [if_neg (by simpa using g4)] at hno
    first | refine g_cnd Tk Tryd.func52 rfl (fun g5 => ?_) (fun g5 => ?_) | refine g_know Tk Tryd.func52 rfl (fun g5 => ?_) (fun g5 => ?_) | refine s_know Tk (fun g5 => ?_) (fun g5 => ?_)
    · have g5 : v = 1 := beqT g5
      rw [if_pos g5] at hno
      first | refine g_need Tk Tryd.func52 (by exact ⟨by show (acc.length + 1) * 8 ≤ 140737488355328; omega, by show acc.length + 1 ≤ 9223372036854775807; omega⟩) ?_ | refine s_need Tk (by exact ⟨by show (acc.length + 1) * 8 ≤ 140737488355328; omega, by show acc.length + 1 ≤ 9223372036854775807; omega⟩) ?_
      refine g_loop ?_
      exact ih (i + 1, acc ++ [(i : Int)]) _ _ ⟨h1, by simp only [List.length_append, List.length_singleton]; omega, hno⟩ (by simp only; omega) ⟨rfl, rfl, rfl, rfl, hi1, trivial⟩ rfl ⟨rfl, congrArg some (oints_app acc (i : Int)), trivial⟩ rfl rfl
    · have g5 : v ≠ 1 := beqF g5
      rw [if_neg g5] at hno
      refine g_loop ?_
      exact ih (i + 1, acc) _ _ ⟨h1, by simp only; omega, hno⟩ (by simp only; omega) ⟨rfl, rfl, rfl, rfl, hi1, trivial⟩ rfl ⟨rfl, rfl, trivial⟩ rfl rfl
  · have h1 : l.length ≤ i := by simpa using g3
    rw [List.drop_eq_nil_of_le h1] at hno
    simp only [whL] at hno
    subst hno
    refine g_rwk (wk_freeze 72 rfl rfl) ?_
    refine g_ret Tk (r := .tup [ints acc, ii 0]) rfl rfl rfl trivial rfl rfl ?_
    rfl
end Go.AI


namespace Go.AI
open Go.Proofs
set_option maxRecDepth 20000
/- Words. -/
/-- What is known in a search of a sketched automaton. -/
structure Inv5 (m : Ext) (S : Srch) : Prop where
  lk : Linked S
  ok : ∀ s ∈ S.sts, okS m s
  nd : S.sts.Nodup
  fl : S.kind ≠ 0 → 0 ≤ S.flt.1
/- No more than 64 states. -/
theorem nodup_bound : ∀ {n : Nat} {l : List Nat}, l.Nodup → (∀ x ∈ l, x < n) → l.length ≤ n
  | 0, l, _, h => by
    cases l with
    | nil => exact Nat.le_refl _
    | cons a r => exact absurd (h a (by simp)) (Nat.not_lt_zero _)
  | n + 1, l, hn, h => by
    by_cases hm : n ∈ l
    · have h1 := nodup_bound (n := n) (l := l.erase n) (hn.erase n) fun x hx => by
        have hx2 := (hn.mem_erase_iff).1 hx
        have := h x hx2.2
        have := hx2.1
        omega
      rw [List.length_erase_of_mem hm] at h1
      omega
    · have := nodup_bound (n := n) (l := l) hn fun x hx => by
        have h1 := h x hx
        have : x ≠ n := fun e => hm (e ▸ hx)
        omega
      omega
/- The text of a state says which it is. -/
/-- One event, where there is no limit. -/
def vt (m : Ext) (i : Nat) (s : Sta) (ev : Int) (S : Srch) : Srch :=
  let n := stepR m s ev
  let S1 : Srch := if n.2.2 ≠ 0 ∧ S.kind = 0 then { S with kind := n.2.2, flt := (i, ev) } else S
  if n.2.1 = false ∨ n.1 ∈ S.sts then S1 else { S1 with sts := S1.sts ++ [n.1], frm := S1.frm ++ [((i : Int), ev)] }
/- What one event does to words. -/
end Go.AI


/- Sketched automata unfolded: what is known of the result, in plain data. -/
namespace Go.AI
set_option maxRecDepth 20000
/-- The key says which state it is. -/
def decF (l : List UInt8) : List Int :=
  (l.foldl (fun (x : List Int × Bool × Int) c =>
    if c = 32 then (x.1 ++ [if x.2.1 then -x.2.2 else x.2.2], false, 0) else if c = 59 then x else if c = 45 then (x.1, true, x.2.2) else (x.1, x.2.1, x.2.2 * 10 + ((c.toNat : Int) - 48))) ([], false, 0)).1
def decK (b : ByteArray) : Sta := match decF b.data.toList with
  | [] => zeroS
  | l :: v => ⟨l, v⟩
theorem beq_bytes {a b : ByteArray} : (a == b) = true ↔ a = b := by
  constructor
  · intro h
    have h' : (a.data == b.data) = true := h
    exact ByteArray.ext (by simpa using h')
  · rintro rfl
    show (a.data == a.data) = true
    simp
abbrev mkdM (m : Ext) (s : Sta) : Bool := decide (s.loc ∈ m.marked)
end Go.AI


/- The law's own functions (19): has, none, same, sameStates, place, unfold. -/
namespace Go.AI
open Go.Proofs
set_option maxRecDepth 20000
theorem sameInts_refl (O : List Heap) (l : List Int) (hl : l.length ≤ max63) : ASpec Tryd.prog 36 [ints l, ints l] O (bb true) [] O := by
  have h := sameInts36 O l l hl
  rwa [decide_eq_true rfl] at h
theorem same57 (O : List Heap) (a : Aut) (ha : a.alpha.length ≤ max63) (hm : a.marked.length ≤ max63) (he : a.edges.length ≤ max63) : ASpec Tryd.prog 57 [autD a, autD a] O (bb true) [] O := by
  obtain ⟨al, n, mk, es⟩ := a
  simp only at ha hm he
  have h1 := fun O => sameInts_refl O al ha
  have h2 := fun O => sameInts_refl O mk hm
  refine aspec_intro Tk Tryd.func57 rfl Tryd.call57 Tryd.ntmps57 (Nat.le_of_ble_eq_true rfl) fun E => ?_
  refine g_run Tk Tryd.func57 ?_
  first | refine g_call Tk Tryd.func57 (h1 _) rfl rfl rfl rfl rfl ?_ | refine s_callq Tk (fun _ => h1 _) rfl rfl rfl ?_
  repeat (first | refine g_cnd Tk Tryd.func57 rfl (fun _ => ?_) (fun h => absurd h (by decide)) | refine g_know Tk Tryd.func57 rfl (fun _ => ?_) (fun h => absurd h (by decide)) | refine s_know Tk (fun _ => ?_) (fun h => absurd h (by decide)) | refine g_cnd Tk Tryd.func57 rfl (fun h => absurd h (by decide)) (fun _ => ?_) | refine g_know Tk Tryd.func57 rfl (fun h => absurd h (by decide)) (fun _ => ?_) | refine s_know Tk (fun h => absurd h (by decide)) (fun _ => ?_) | refine g_cnd Tk Tryd.func57 rfl (fun _ => ?_) (fun h => absurd (show true = false from h) (by decide)) | refine g_know Tk Tryd.func57 rfl (fun _ => ?_) (fun h => absurd (show true = false from h) (by decide)) | refine s_know Tk (fun _ => ?_) (fun h => absurd (show true = false from h) (by decide)) | refine g_cnd Tk Tryd.func57 rfl (fun h => absurd (show false = true from h) (by decide)) (fun _ => ?_) | refine g_know Tk Tryd.func57 rfl (fun h => absurd (show false = true from h) (by decide)) (fun _ => ?_) | refine s_know Tk (fun h => absurd (show false = true from h) (by decide)) (fun _ => ?_))
  first | refine g_cnd Tk Tryd.func57 rfl (fun g1 => ?_) (fun g1 => ?_) | refine g_know Tk Tryd.func57 rfl (fun g1 => ?_) (fun g1 => ?_) | refine s_know Tk (fun g1 => ?_) (fun g1 => ?_)
  · exact absurd rfl (bneT g1)
  repeat (first | refine g_cnd Tk Tryd.func57 rfl (fun _ => ?_) (fun h => absurd h (by decide)) | refine g_know Tk Tryd.func57 rfl (fun _ => ?_) (fun h => absurd h (by decide)) | refine s_know Tk (fun _ => ?_) (fun h => absurd h (by decide)) | refine g_cnd Tk Tryd.func57 rfl (fun h => absurd h (by decide)) (fun _ => ?_) | refine g_know Tk Tryd.func57 rfl (fun h => absurd h (by decide)) (fun _ => ?_) | refine s_know Tk (fun h => absurd h (by decide)) (fun _ => ?_) | refine g_cnd Tk Tryd.func57 rfl (fun _ => ?_) (fun h => absurd (show true = false from h) (by decide)) | refine g_know Tk Tryd.func57 rfl (fun _ => ?_) (fun h => absurd (show true = false from h) (by decide)) | refine s_know Tk (fun _ => ?_) (fun h => absurd (show true = false from h) (by decide)) | refine g_cnd Tk Tryd.func57 rfl (fun h => absurd (show false = true from h) (by decide)) (fun _ => ?_) | refine g_know Tk Tryd.func57 rfl (fun h => absurd (show false = true from h) (by decide)) (fun _ => ?_) | refine s_know Tk (fun h => absurd (show false = true from h) (by decide)) (fun _ => ?_))
  first | refine g_call Tk Tryd.func57 (h2 _) rfl rfl rfl rfl rfl ?_ | refine s_callq Tk (fun _ => h2 _) rfl rfl rfl ?_
  repeat (first | refine g_cnd Tk Tryd.func57 rfl (fun _ => ?_) (fun h => absurd h (by decide)) | refine g_know Tk Tryd.func57 rfl (fun _ => ?_) (fun h => absurd h (by decide)) | refine s_know Tk (fun _ => ?_) (fun h => absurd h (by decide)) | refine g_cnd Tk Tryd.func57 rfl (fun h => absurd h (by decide)) (fun _ => ?_) | refine g_know Tk Tryd.func57 rfl (fun h => absurd h (by decide)) (fun _ => ?_) | refine s_know Tk (fun h => absurd h (by decide)) (fun _ => ?_) | refine g_cnd Tk Tryd.func57 rfl (fun _ => ?_) (fun h => absurd (show true = false from h) (by decide)) | refine g_know Tk Tryd.func57 rfl (fun _ => ?_) (fun h => absurd (show true = false from h) (by decide)) | refine s_know Tk (fun _ => ?_) (fun h => absurd (show true = false from h) (by decide)) | refine g_cnd Tk Tryd.func57 rfl (fun h => absurd (show false = true from h) (by decide)) (fun _ => ?_) | refine g_know Tk Tryd.func57 rfl (fun h => absurd (show false = true from h) (by decide)) (fun _ => ?_) | refine s_know Tk (fun h => absurd (show false = true from h) (by decide)) (fun _ => ?_))
  first | refine g_cnd Tk Tryd.func57 rfl (fun g2 => ?_) (fun g2 => ?_) | refine g_know Tk Tryd.func57 rfl (fun g2 => ?_) (fun g2 => ?_) | refine s_know Tk (fun g2 => ?_) (fun g2 => ?_)
  · exact absurd rfl (bneT g2)
  refine g_loop ?_
  refine rch_loop2 (fun i : Nat => [(2, .own 0 2 0 0), (3, .own 0 3 0 0), (5, ii i)]) (fun _ => [(2, .box [ints al, ii n, ints mk, edgs es]), (3, .box [ints al, ii n, ints mk, edgs es])]) (fun _ => O) 54
    (fun i => i ≤ es.length) (fun i => es.length - i) 0 (Nat.zero_le _) ⟨rfl, rfl, rfl, trivial⟩ rfl ⟨rfl, rfl, trivial⟩ rfl rfl ?_
  rintro i hi ih
  refine g_run Tk Tryd.func57 ?_
  first | refine g_cnd Tk Tryd.func57 rfl (fun g3 => ?_) (fun g3 => ?_) | refine g_know Tk Tryd.func57 rfl (fun g3 => ?_) (fun g3 => ?_) | refine s_know Tk (fun g3 => ?_) (fun g3 => ?_)
  · have h3 : i < es.length := by simpa using g3
    have ge : (es.map edgI)[(i : Int).toNat]? = some (edgI es[i]) := get_mapZ h3
    generalize es[i] = e at *
    refine g_drawn Tk Tryd.func57 mixedT rfl ?_
    first | refine g_need Tk Tryd.func57 (by exact ⟨by omega, by show (i : Int) < (es.length : Int); omega⟩) ?_ | refine s_need Tk (by exact ⟨by omega, by show (i : Int) < (es.length : Int); omega⟩) ?_
    first | refine g_elem Tk Tryd.func57 (ge) ?_ | refine s_elem Tk (ge) ?_
    first | refine g_need Tk Tryd.func57 (by exact ⟨by omega, by show (i : Int) < (es.length : Int); omega⟩) ?_ | refine s_need Tk (by exact ⟨by omega, by show (i : Int) < (es.length : Int); omega⟩) ?_
    first | refine g_elem Tk Tryd.func57 (ge) ?_ | refine s_elem Tk (ge) ?_
    refine e_done Tk Tryd.func57 (by kernel_rfl) ?_
    first | refine g_cnd Tk Tryd.func57 rfl (fun g4 => ?_) (fun g4 => ?_) | refine g_know Tk Tryd.func57 rfl (fun g4 => ?_) (fun g4 => ?_) | refine s_know Tk (fun g4 => ?_) (fun g4 => ?_)
    · simp at g4
    · refine g_loop ?_
      exact ih (i + 1) _ _ h3 (by omega) ⟨rfl, rfl, congrArg ii (wsucc h3 he), trivial⟩ rfl ⟨rfl, rfl, trivial⟩ rfl rfl
  · refine g_ret Tk (r := bb true) rfl rfl rfl trivial rfl rfl ?_
    rfl
end Go.AI


/- The law's unfolding. -/
namespace Go.AI
open Go.Proofs
set_option maxRecDepth 20000
end Go.AI
