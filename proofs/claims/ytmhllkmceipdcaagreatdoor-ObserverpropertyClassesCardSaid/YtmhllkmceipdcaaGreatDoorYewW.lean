/- The layer of abstract runs, part 23. -/
import Derived.Test.YtmhllkmceipdcaaGreatDoorYewV
set_option linter.unusedSimpArgs false
set_option linter.unusedVariables false
set_option linter.all false

namespace Go.AI
def memN : List Nat → Nat → Bool
  | [], _ => false
  | x :: r, n => bif Nat.beq x n then true else memN r n
theorem memN_iff {n : Nat} : ∀ {l : List Nat}, memN l n = true ↔ n ∈ l
  | [] => by simp [memN]
  | x :: r => by
    simp only [memN, List.mem_cons]
    by_cases h : x = n
    · subst h; simp
    · have : Nat.beq x n = false := by
        cases hb : Nat.beq x n with
        | false => rfl
        | true => exact absurd (Nat.eq_of_beq_eq_true hb) h
      rw [this, cond_false, memN_iff]
      simp [Ne.symm h]
def uni (a : List Nat) : List Nat → List Nat
  | [] => a
  | x :: r => bif memN a x then uni a r else uni (x :: a) r
def befores (o : Oper) : List Nat := (o.after.toList.filter fun e => Region.binds .any e).map (·.on)
def getL (l : List (List Nat)) (i : Nat) : List Nat := match l[i]? with
  | some x => x
  | none => []
def presGo : List Oper → List (List Nat) → List (List Nat)
  | [], acc => acc
  | o :: r, acc => presGo r (acc ++ [(befores o).foldl (fun l j => uni (uni l [j]) (getL acc j)) []])
def allN : Nat → (Nat → Bool) → Bool
  | 0, _ => true
  | n + 1, f => f n && allN n f
theorem allN_iff {f : Nat → Bool} : ∀ {n : Nat}, allN n f = true → ∀ k, k < n → f k = true
  | 0, _, k, h => absurd h (Nat.not_lt_zero _)
  | n + 1, h, k, hk => by
    simp only [allN, Bool.and_eq_true] at h
    by_cases e : k = n
    · subst e; exact h.1
    · exact allN_iff h.2 k (by omega)
def preOk (ops : Array Oper) (pre : List (List Nat)) : Bool :=
  allN ops.size fun i => match ops[i]? with
    | some o => (befores o).all (fun j => Nat.ble (j + 1) i) && (getL pre i).all fun j => (befores o).any fun k => Nat.beq k j || memN (getL pre k) j
    | none => true
def Closed (ops : Array Oper) (L : Nat → Bool) : Prop := ∀ i o, ops[i]? = some o → L i = true → ∀ j ∈ befores o, L j = true
theorem pre_lt {ops : Array Oper} {pre : List (List Nat)} (h : preOk ops pre = true) : ∀ i o, ops[i]? = some o → (∀ j ∈ befores o, j < i) ∧ ∀ j ∈ getL pre i, ∃ k ∈ befores o, k = j ∨ j ∈ getL pre k := by
  intro i o ho
  have hlt : i < ops.size := (Array.getElem?_eq_some_iff.1 ho).1
  have h1 := allN_iff h i hlt
  simp only [ho, Bool.and_eq_true, List.all_eq_true, List.any_eq_true, Bool.or_eq_true] at h1
  refine ⟨fun j hj => Nat.le_of_ble_eq_true (h1.1 j hj), fun j hj => ?_⟩
  obtain ⟨k, hk, h2⟩ := h1.2 j hj
  exact ⟨k, hk, h2.imp Nat.eq_of_beq_eq_true memN_iff.1⟩
theorem pre_down {ops : Array Oper} {pre : List (List Nat)} (h : preOk ops pre = true) {L : Nat → Bool} (hc : Closed ops L) : ∀ (n i : Nat) (o : Oper), i < n → ops[i]? = some o → (∀ j ∈ befores o, L j = true) → ∀ j ∈ getL pre i, L j = true ∧ j < i := by
  intro n
  induction n with
  | zero => intro i o hi; omega
  | succ n ih =>
    intro i o hi ho hb j hj
    obtain ⟨h1, h2⟩ := pre_lt h i o ho
    obtain ⟨k, hk, h3⟩ := h2 j hj
    have hk1 := h1 k hk
    rcases h3 with rfl | h3
    · exact ⟨hb _ hk, hk1⟩
    · have hlt : i < ops.size := (Array.getElem?_eq_some_iff.1 ho).1
      obtain ⟨ok, hok⟩ : ∃ ok, ops[k]? = some ok := ⟨ops[k]'(by omega), by rw [Array.getElem?_eq_getElem]⟩
      have := ih k ok (by omega) hok (hc k ok hok (hb k hk)) j h3
      exact ⟨this.1, by omega⟩
def restr {α : Type} (l : List (Nat × α)) : List Nat → List (Nat × α)
  | [] => []
  | t :: r => match look l t with
    | some d => (t, d) :: restr l r
    | none => restr l r
theorem restr_look {α : Type} {l : List (Nat × α)} {t : Nat} {d : α} : ∀ {ks : List Nat}, look (restr l ks) t = some d → look l t = some d
  | [], h => by simp [restr, look] at h
  | k :: r, h => by
    simp only [restr] at h
    split at h
    · rename_i x hx
      rw [look_cons] at h
      split at h
      · rename_i e; subst e; rw [hx]; exact h
      · exact restr_look h
    · exact restr_look h
mutual
def D.names : D → List Nat
  | .own 0 nm _ _ => [nm]
  | .osl 0 nm => [nm]
  | .agg cs => D.namesL cs
  | .tup cs => D.namesL cs
  | .fn _ a b => D.namesL a ++ D.namesL b
  | _ => []
def D.namesL : List D → List Nat
  | [] => []
  | d :: r => d.names ++ D.namesL r
end
def Ob.names : Ob → List Nat
  | .box cs => D.namesL cs
  | .tb _ cs => D.namesL cs
  | _ => []
def namesS : List (Nat × D) → List Nat
  | [] => []
  | (_, d) :: r => d.names ++ namesS r
def namesH : Heap → List Nat
  | [] => []
  | (_, o) :: r => o.names ++ namesH r
def viewOf (ops : Array Oper) (o : Oper) (x : SH) : SH :=
  let vs := restr x.1 (o.looksAt ops)
  let n1 := namesS vs
  (vs, restr x.2 (n1 ++ namesH (restr x.2 n1)))
def keys {α : Type} : List (Nat × α) → List Nat
  | [] => []
  | (k, _) :: r => k :: keys r
theorem mem_keys {α : Type} {t : Nat} {d : α} : ∀ {l : List (Nat × α)}, look l t = some d → t ∈ keys l
  | [], h => by simp [look] at h
  | (k, x) :: r, h => by
    rw [look_cons] at h
    simp only [keys, List.mem_cons]
    split at h
    · rename_i e; exact .inl e.symm
    · exact .inr (mem_keys h)
def allS (f : Nat → D → Bool) : List (Nat × D) → Bool
  | [] => true
  | (t, d) :: r => f t d && allS f r
theorem allS_look {f : Nat → D → Bool} {t : Nat} {d : D} : ∀ {l : List (Nat × D)}, allS f l = true → look l t = some d → f t d = true
  | [], _, h => by simp [look] at h
  | (k, x) :: r, h1, h => by
    simp only [allS, Bool.and_eq_true] at h1
    rw [look_cons] at h
    split at h
    · rename_i e; subst e; simp only [Option.some.injEq] at h; subst h; exact h1.1
    · exact allS_look h1.2 h
def allH (f : Nat → Ob → Bool) : Heap → Bool
  | [] => true
  | (t, d) :: r => f t d && allH f r
theorem allH_look {f : Nat → Ob → Bool} {t : Nat} {d : Ob} : ∀ {l : Heap}, allH f l = true → look l t = some d → f t d = true
  | [], _, h => by simp [look] at h
  | (k, x) :: r, h1, h => by
    simp only [allH, Bool.and_eq_true] at h1
    rw [look_cons] at h
    split at h
    · rename_i e; subst e; simp only [Option.some.injEq] at h; subst h; exact h1.1
    · exact allH_look h1.2 h
def ordB (pre : List (List Nat)) (i j : Nat) : Bool := Nat.beq i j || memN (getL pre i) j || memN (getL pre j) i
def remL (g : Option Nat) : List Nat := match g with
  | some x => [x]
  | none => []
def okI (ops : Array Oper) (pre : List (List Nat)) (ps : List Pl) (x0 : SH) (i : Nat) (o : Oper) (x : SH) (p : Pl) : Bool :=
  let v := viewOf ops o x
  ((keys v.1 ++ keys p.sets).all fun t => allN ops.size fun j => !wS ps t j || ordB pre i j) &&
  ((keys v.2 ++ (keys p.adds ++ remL p.rem)).all fun t => allN ops.size fun j => !wH ps t j || ordB pre i j) &&
  allS (fun _ d => d.within (hasK v.2)) v.1 && allH (fun _ d => d.within (hasK v.2)) v.2 &&
  (match o.dst with
    | some t => hasK p.sets t
    | none => true) &&
  ((keys p.adds).all fun nm => hasK v.2 nm || (!hasK x0.2 nm && allN ops.size fun j => Nat.beq i j || memN (getL pre j) i || !hasK (pl ps j).adds nm)) &&
  (match p.rem with
    | none => true
    | some g => hasK v.2 g && allS (fun t d => hasK p.sets t || d.within (butG p.rem)) x0.1 && allH (fun t d => Nat.beq t g || d.within (butG p.rem)) x0.2 &&
      allN ops.size fun j => Nat.beq i j || memN (getL pre j) i || (allS (fun t d => hasK p.sets t || d.within (butG p.rem)) (pl ps j).sets && allH (fun t d => Nat.beq t g || d.within (butG p.rem)) (pl ps j).adds))
mutual
theorem D.within_all : ∀ (d : D), d.within (butG none) = true
  | .own 0 _ _ _ => rfl
  | .own (_ + 1) _ _ _ => rfl
  | .osl 0 _ => rfl
  | .osl (_ + 1) _ => rfl
  | .agg cs => by simp only [D.within]; exact D.withins_all cs
  | .tup cs => by simp only [D.within]; exact D.withins_all cs
  | .fn _ a b => by simp only [D.within, Bool.and_eq_true]; exact ⟨D.withins_all a, D.withins_all b⟩
  | .dead => rfl
  | .i _ => rfl
  | .xsl _ _ _ => rfl
  | .bt => rfl
  | .bf => rfl
theorem D.withins_all : ∀ (d : List D), D.withins (butG none) d = true
  | [] => rfl
  | d :: r => by simp only [D.withins, Bool.and_eq_true]; exact ⟨D.within_all d, D.withins_all r⟩
end
theorem Ob.within_all (o : Ob) : o.within (butG none) = true := by
  cases o with
  | box cs => exact D.withins_all cs
  | tb _ cs => exact D.withins_all cs
  | arr => rfl
  | mp => rfl
section
variable {ps : List Pl}
theorem fold_srcS {t : Nat} {d : D} : ∀ {l : List Nat} {x : SH}, look (fold ps l x).1 t = some d → look x.1 t = some d ∨ ∃ k ∈ l, look (pl ps k).sets t = some d
  | [], x, h => .inl h
  | i :: l, x, h => by
    have h' : look (fold ps l ((pl ps i).ap x)).1 t = some d := h
    rcases fold_srcS h' with h1 | ⟨k, hk, h1⟩
    · rw [ap_S] at h1
      cases h2 : look (pl ps i).sets t with
      | some d' => rw [h2] at h1; exact .inr ⟨i, by simp, by rw [h2]; exact h1⟩
      | none => rw [h2] at h1; exact .inl h1
    · exact .inr ⟨k, by simp [hk], h1⟩
theorem fold_srcH {t : Nat} {d : Ob} : ∀ {l : List Nat} {x : SH}, look (fold ps l x).2 t = some d → look x.2 t = some d ∨ ∃ k ∈ l, look (pl ps k).adds t = some d
  | [], x, h => .inl h
  | i :: l, x, h => by
    have h' : look (fold ps l ((pl ps i).ap x)).2 t = some d := h
    rcases fold_srcH h' with h1 | ⟨k, hk, h1⟩
    · rw [ap_H] at h1
      cases h2 : look (pl ps i).adds t with
      | some d' => rw [h2] at h1; exact .inr ⟨i, by simp, by rw [h2]; exact h1⟩
      | none =>
        rw [h2] at h1
        simp only at h1
        split at h1
        · cases h1
        · exact .inl h1
    · exact .inr ⟨k, by simp [hk], h1⟩
theorem fits {ops : Array Oper} {pre : List (List Nat)} {x0 x : SH} {i : Nat} {o : Oper} (hpre : preOk ops pre = true) (ho : ops[i]? = some o) (hok : okI ops pre ps x0 i o x (pl ps i) = true)
    (hx : x = fold ps (ord ops.size fun k => Nat.ble (k + 1) i) x0) {L : Nat → Bool} (hc : Closed ops L) (hL : L i = false) (hb : ∀ j ∈ befores o, L j = true) :
    Fits (fold ps (ord ops.size L) x0) (viewOf ops o x) o (pl ps i) ∧
      (∀ t, look (fold ps (ord ops.size fun k => L k || Nat.beq k i) x0).1 t = look ((pl ps i).ap (fold ps (ord ops.size L) x0)).1 t) ∧
      ∀ t, look (fold ps (ord ops.size fun k => L k || Nat.beq k i) x0).2 t = look ((pl ps i).ap (fold ps (ord ops.size L) x0)).2 t := by
  simp only [okI, Bool.and_eq_true] at hok
  obtain ⟨⟨⟨⟨⟨⟨c1, c2⟩, c3⟩, c4⟩, c5⟩, c6⟩, c7⟩ := hok
  have hlt : i < ops.size := (Array.getElem?_eq_some_iff.1 ho).1
  have hdown := pre_down hpre hc (i + 1) i o (by omega) ho hb
  have hord : ∀ k, k < ops.size → ordB pre i k = true → k ≠ i → (L k = true ∧ k < i) ∨ (L k = false ∧ i < k) := by
    intro k hk h hne
    simp only [ordB, Bool.or_eq_true] at h
    rcases h with (h | h) | h
    · exact absurd (Nat.eq_of_beq_eq_true h).symm hne
    · exact .inl (hdown k (memN_iff.1 h))
    · obtain ⟨ok, hok⟩ : ∃ ok, ops[k]? = some ok := ⟨ops[k]'hk, by rw [Array.getElem?_eq_getElem]⟩
      refine .inr ?_
      have key : L k = true → L i = true := fun hk1 => (pre_down hpre hc (k + 1) k ok (by omega) hok (hc k ok hok hk1) i (memN_iff.1 h)).1
      have hik : i < k := (pre_down hpre (L := fun _ => true) (fun _ _ _ _ _ _ => rfl) (k + 1) k ok (by omega) hok (fun _ _ => rfl) i (memN_iff.1 h)).2
      refine ⟨?_, hik⟩
      cases hLk : L k with
      | false => rfl
      | true => rw [key hLk] at hL; cases hL
  have hsame : ∀ k, k < ops.size → ordB pre i k = true → L k = Nat.ble (k + 1) i := by
    intro k hk h
    by_cases hne : k = i
    · subst hne
      rw [hL]
      cases hb : Nat.ble (k + 1) k with
      | false => rfl
      | true => have := Nat.le_of_ble_eq_true hb; omega
    · rcases hord k hk h hne with ⟨h1, h2⟩ | ⟨h1, h2⟩
      · rw [h1, Nat.ble_eq_true_of_le (by omega)]
      · rw [h1]
        cases hb : Nat.ble (k + 1) i with
        | false => rfl
        | true => have := Nat.le_of_ble_eq_true hb; omega
  have hW1 : ∀ t, t ∈ keys (viewOf ops o x).1 ++ keys (pl ps i).sets → ∀ k, k < ops.size → wS ps t k = true → ordB pre i k = true := by
    intro t ht k hk hw
    have := allN_iff (List.all_eq_true.1 c1 t ht) k hk
    rw [hw] at this
    simpa using this
  have hW2 : ∀ t, t ∈ keys (viewOf ops o x).2 ++ (keys (pl ps i).adds ++ remL (pl ps i).rem) → ∀ k, k < ops.size → wH ps t k = true → ordB pre i k = true := by
    intro t ht k hk hw
    have := allN_iff (List.all_eq_true.1 c2 t ht) k hk
    rw [hw] at this
    simpa using this
  have hasEq : has (viewOf ops o x).2 = hasK (viewOf ops o x).2 := by
    funext n; unfold has hasK; cases look (viewOf ops o x).2 n <;> rfl
  have hL' : ∀ k, k ∈ ord ops.size L → k ≠ i ∧ k < ops.size ∧ L k = true ∧ memN (getL pre k) i = false := by
    intro k hk
    rw [mem_ord] at hk
    have hne : k ≠ i := fun e => by rw [e, hL] at hk; cases hk.2
    refine ⟨hne, hk.1, hk.2, ?_⟩
    cases hm : memN (getL pre k) i with
    | false => rfl
    | true =>
      obtain ⟨ok, hok⟩ : ∃ ok, ops[k]? = some ok := ⟨ops[k]'hk.1, by rw [Array.getElem?_eq_getElem]⟩
      have := (pre_down hpre hc (k + 1) k ok (by omega) hok (hc k ok hok hk.2) i (memN_iff.1 hm)).1
      rw [hL] at this; cases this
  refine ⟨⟨?_, ?_, ?_, ?_, ?_, ?_, ?_, ?_, ?_⟩, ?_, ?_⟩
  · intro t d h
    have h1 : look x.1 t = some d := restr_look h
    rw [hx] at h1
    rw [fold_same (fun x => look x.1 t) (wS ps t) (fun i x h => ap_S_not h x) (fun i x y h => ap_S_w h x y) (m' := fun k => Nat.ble (k + 1) i)]
    · exact h1
    · intro k hk hw
      exact hsame k hk (hW1 t (List.mem_append.2 (.inl (mem_keys h))) k hk hw)
  · intro t d h
    have h1 : look x.2 t = some d := restr_look h
    rw [hx] at h1
    rw [fold_same (fun x => look x.2 t) (wH ps t) (fun i x h => ap_H_not h x) (fun i x y h => ap_H_w h x y) (m' := fun k => Nat.ble (k + 1) i)]
    · exact h1
    · intro k hk hw
      exact hsame k hk (hW2 t (List.mem_append.2 (.inl (mem_keys h))) k hk hw)
  · intro t d h
    rw [hasEq]; exact allS_look c3 h
  · intro t d h
    rw [hasEq]; exact allH_look c4 h
  · intro t h
    rw [h] at c5; exact c5
  · intro nm h1 h2
    obtain ⟨ob, h1'⟩ := hasK_iff.1 h1
    have h3 := List.all_eq_true.1 c6 nm (mem_keys h1')
    simp only [Bool.or_eq_true, Bool.and_eq_true, Bool.not_eq_true'] at h3
    rcases h3 with h3 | ⟨h3, h4⟩
    · rw [hasEq]; exact h3
    · obtain ⟨ob2, h2'⟩ := has_iff.1 h2
      rcases fold_srcH h2' with h5 | ⟨k, hk, h5⟩
      · rw [hasK_iff.2 ⟨_, h5⟩] at h3; cases h3
      · obtain ⟨hne, hk1, _, hm⟩ := hL' k hk
        have := allN_iff h4 k hk1
        simp only [Bool.or_eq_true] at this
        rcases this with (h6 | h6) | h6
        · exact absurd (Nat.eq_of_beq_eq_true h6).symm hne
        · rw [hm] at h6; cases h6
        · rw [hasK_iff.2 ⟨_, h5⟩] at h6; cases h6
  · intro t d h h1
    cases hr : (pl ps i).rem with
    | none => exact D.within_all d
    | some g =>
      rw [hr] at c7
      simp only [Bool.and_eq_true] at c7
      obtain ⟨⟨⟨d1, d2⟩, d3⟩, d4⟩ := c7
      rcases fold_srcS h with h5 | ⟨k, hk, h5⟩
      · have := allS_look d2 h5
        rw [h1] at this
        simpa using this
      · obtain ⟨hne, hk1, _, hm⟩ := hL' k hk
        have := allN_iff d4 k hk1
        have hne' : Nat.beq i k = false := by
          cases hb : Nat.beq i k with
          | false => rfl
          | true => exact absurd (Nat.eq_of_beq_eq_true hb).symm hne
        rw [hm, hne'] at this
        simp only [Bool.false_or, Bool.and_eq_true] at this
        have := allS_look this.1 h5
        rw [h1] at this
        simpa using this
  · intro nm ob h h1
    cases hr : (pl ps i).rem with
    | none => exact Ob.within_all ob
    | some g =>
      rw [hr] at c7
      simp only [Bool.and_eq_true] at c7
      obtain ⟨⟨⟨d1, d2⟩, d3⟩, d4⟩ := c7
      have hne0 : Nat.beq nm g = false := by
        cases hb : Nat.beq nm g with
        | false => rfl
        | true =>
          have := Nat.eq_of_beq_eq_true hb
          subst this
          rw [hasK_not.2 h1] at d1; cases d1
      rcases fold_srcH h with h5 | ⟨k, hk, h5⟩
      · have := allH_look d3 h5
        rw [hne0] at this
        simpa using this
      · obtain ⟨hne, hk1, _, hm⟩ := hL' k hk
        have := allN_iff d4 k hk1
        have hne' : Nat.beq i k = false := by
          cases hb : Nat.beq i k with
          | false => rfl
          | true => exact absurd (Nat.eq_of_beq_eq_true hb).symm hne
        rw [hm, hne'] at this
        simp only [Bool.false_or, Bool.and_eq_true] at this
        have := allH_look this.2 h5
        rw [hne0] at this
        simpa using this
  · intro g hr
    rw [hr] at c7
    simp only [Bool.and_eq_true] at c7
    rw [hasEq]; exact c7.1.1.1
  · intro t
    cases hw : wS ps t i with
    | true =>
      obtain ⟨d, hd⟩ := hasK_iff.1 hw
      refine fold_last (fun x => look x.1 t) (wS ps t) (fun i x h => ap_S_not h x) (fun i x y h => ap_S_w h x y) (ord_sorted _ _) (mem_ord.2 ⟨hlt, by simp⟩) hw ?_ _ _
      intro k hk hwk
      rw [mem_ord] at hk
      by_cases hne : k = i
      · omega
      · have hk2 : L k = true := by
          have := hk.2
          simp only [Bool.or_eq_true] at this
          rcases this with h' | h'
          · exact h'
          · exact absurd (Nat.eq_of_beq_eq_true h') hne
        rcases hord k hk.1 (hW1 t (List.mem_append.2 (.inr (mem_keys hd))) k hk.1 hwk) hne with ⟨_, h2⟩ | ⟨h1, _⟩
        · omega
        · rw [h1] at hk2; cases hk2
    | false =>
      rw [ap_S_not hw]
      refine fold_same (fun x => look x.1 t) (wS ps t) (fun i x h => ap_S_not h x) (fun i x y h => ap_S_w h x y) ?_ _
      intro k hk hwk
      have hne : Nat.beq k i = false := by
        cases hb : Nat.beq k i with
        | false => rfl
        | true =>
          have := Nat.eq_of_beq_eq_true hb
          subst this
          rw [hw] at hwk; cases hwk
      simp [hne]
  · intro t
    cases hw : wH ps t i with
    | true =>
      refine fold_last (fun x => look x.2 t) (wH ps t) (fun i x h => ap_H_not h x) (fun i x y h => ap_H_w h x y) (ord_sorted _ _) (mem_ord.2 ⟨hlt, by simp⟩) hw ?_ _ _
      have hmem : t ∈ keys (viewOf ops o x).2 ++ (keys (pl ps i).adds ++ remL (pl ps i).rem) := by
        refine List.mem_append.2 (.inr (List.mem_append.2 ?_))
        simp only [wH, Bool.or_eq_true] at hw
        rcases hw with h1 | h1
        · obtain ⟨d, hd⟩ := hasK_iff.1 h1
          exact .inl (mem_keys hd)
        · rw [isG_iff.1 h1]; exact .inr (by simp [remL])
      intro k hk hwk
      rw [mem_ord] at hk
      by_cases hne : k = i
      · omega
      · have hk2 : L k = true := by
          have := hk.2
          simp only [Bool.or_eq_true] at this
          rcases this with h' | h'
          · exact h'
          · exact absurd (Nat.eq_of_beq_eq_true h') hne
        rcases hord k hk.1 (hW2 t hmem k hk.1 hwk) hne with ⟨_, h2⟩ | ⟨h1, _⟩
        · omega
        · rw [h1] at hk2; cases hk2
    | false =>
      rw [ap_H_not hw]
      refine fold_same (fun x => look x.2 t) (wH ps t) (fun i x h => ap_H_not h x) (fun i x y h => ap_H_w h x y) ?_ _
      intro k hk hwk
      have hne : Nat.beq k i = false := by
        cases hb : Nat.beq k i with
        | false => rfl
        | true =>
          have := Nat.eq_of_beq_eq_true hb
          subst this
          rw [hw] at hwk; cases hwk
      simp [hne]
end
end Go.AI
