/- The layer of abstract runs, part 22. -/
import Derived.Test.YtmhllkmceipdcaaGreatDoorYewU
import Derived.Orders
set_option linter.unusedSimpArgs false
set_option linter.unusedVariables false
set_option linter.all false

namespace Go.AI
abbrev SH := List (Nat × D) × Heap
def St.of (O : List Heap) (n : Nat) (x : SH) : St := { σ := x.1, S := x.2 :: O, n := n }
structure Pl where
  sets : List (Nat × D)
  adds : Heap
  rem : Option Nat
def rmv1 (g : Nat) : Heap → Heap
  | [] => []
  | (n, o) :: r => bif Nat.beq n g then rmv1 g r else (n, o) :: rmv1 g r
def rmv (g : Option Nat) (H : Heap) : Heap := match g with
  | none => H
  | some g => rmv1 g H
theorem look_rmv1 (g : Nat) : ∀ (H : Heap) (n : Nat), look (rmv1 g H) n = if n = g then none else look H n
  | [], n => by simp [rmv1, look]
  | (k, o) :: r, n => by
    simp only [rmv1]
    by_cases h : k = g
    · subst h
      simp only [Nat.beq_refl, cond_true, look_rmv1 k r n, look_cons]
      by_cases hn : n = k
      · subst hn; simp
      · simp [hn, Ne.symm hn]
    · have : Nat.beq k g = false := by
        cases hb : Nat.beq k g with
        | false => rfl
        | true => exact absurd (Nat.eq_of_beq_eq_true hb) h
      rw [this, cond_false, look_cons, look_cons, look_rmv1 g r n]
      by_cases hn : k = n
      · subst hn; simp [h]
      · simp [hn]
theorem look_rmv (g : Option Nat) (H : Heap) (n : Nat) : look (rmv g H) n = if g = some n then none else look H n := by
  cases g with
  | none => simp [rmv]
  | some g =>
    simp only [rmv, look_rmv1]
    by_cases h : n = g
    · subst h; simp
    · simp [h, Ne.symm h]
def Pl.ap (p : Pl) (x : SH) : SH := (p.sets ++ x.1, p.adds ++ rmv p.rem x.2)
def pl (ps : List Pl) (i : Nat) : Pl := match ps[i]? with
  | some p => p
  | none => ⟨[], [], none⟩
def hasK {α : Type} (l : List (Nat × α)) (t : Nat) : Bool := match look l t with
  | some _ => true
  | none => false
theorem hasK_iff {α : Type} {l : List (Nat × α)} {t : Nat} : hasK l t = true ↔ ∃ x, look l t = some x := by
  unfold hasK
  cases look l t <;> simp
theorem hasK_not {α : Type} {l : List (Nat × α)} {t : Nat} : hasK l t = false ↔ look l t = none := by
  unfold hasK
  cases look l t <;> simp
def wS (ps : List Pl) (t i : Nat) : Bool := hasK (pl ps i).sets t
def isG (g : Option Nat) (n : Nat) : Bool := match g with
  | none => false
  | some x => Nat.beq x n
theorem isG_iff {g : Option Nat} {n : Nat} : isG g n = true ↔ g = some n := by
  cases g with
  | none => simp [isG]
  | some x => simp [isG]
def wH (ps : List Pl) (n i : Nat) : Bool := hasK (pl ps i).adds n || isG (pl ps i).rem n
def fold (ps : List Pl) (l : List Nat) (x : SH) : SH := l.foldl (fun x i => (pl ps i).ap x) x
section
variable {ps : List Pl}
theorem ap_S (p : Pl) (x : SH) (t : Nat) : look (p.ap x).1 t = match look p.sets t with
    | some d => some d
    | none => look x.1 t := by
  simp only [Pl.ap, look_append]
  cases look p.sets t <;> rfl
theorem ap_H (p : Pl) (x : SH) (n : Nat) : look (p.ap x).2 n = match look p.adds n with
    | some d => some d
    | none => if p.rem = some n then none else look x.2 n := by
  simp only [Pl.ap, look_append, look_rmv]
  cases look p.adds n <;> rfl
theorem ap_S_not {t i : Nat} (h : wS ps t i = false) (x : SH) : look ((pl ps i).ap x).1 t = look x.1 t := by
  rw [ap_S, hasK_not.1 h]
theorem ap_H_not {t i : Nat} (h : wH ps t i = false) (x : SH) : look ((pl ps i).ap x).2 t = look x.2 t := by
  simp only [wH, Bool.or_eq_false_iff] at h
  rw [ap_H, hasK_not.1 h.1]
  have : ¬ (pl ps i).rem = some t := fun e => by rw [isG_iff.2 e] at h; cases h.2
  simp [this]
theorem ap_S_w {t i : Nat} (h : wS ps t i = true) (x y : SH) : look ((pl ps i).ap x).1 t = look ((pl ps i).ap y).1 t := by
  obtain ⟨d, hd⟩ := hasK_iff.1 h
  rw [ap_S, ap_S, hd]
theorem ap_H_w {t i : Nat} (h : wH ps t i = true) (x y : SH) : look ((pl ps i).ap x).2 t = look ((pl ps i).ap y).2 t := by
  rw [ap_H, ap_H]
  cases hl : look (pl ps i).adds t with
  | some d => rfl
  | none =>
    have : (pl ps i).rem = some t := by
      simp only [wH, hasK_not.2 hl, Bool.false_or] at h
      exact isG_iff.1 h
    simp [this]
theorem fold_append (l l' : List Nat) (x : SH) : fold ps (l ++ l') x = fold ps l' (fold ps l x) := List.foldl_append
theorem fold_gen {α : Type} (f : SH → α) (W : Nat → Bool) (h0 : ∀ i x, W i = false → f ((pl ps i).ap x) = f x) : ∀ (l : List Nat) (x : SH), (∀ k ∈ l, W k = false) → f (fold ps l x) = f x
  | [], x, _ => rfl
  | i :: l, x, h => by
    have h1 := fold_gen f W h0 l ((pl ps i).ap x) fun k hk => h k (by simp [hk])
    have h2 := h0 i x (h i (by simp))
    rw [← h2, ← h1]
    rfl
theorem ex_last (W : Nat → Bool) : ∀ l : List Nat, (∀ k ∈ l, W k = false) ∨ ∃ i ∈ l, W i = true ∧ ∀ k ∈ l, W k = true → k ≤ i
  | [] => .inl (by simp)
  | i :: l => by
    rcases ex_last W l with h | ⟨j, hj, hw, hl⟩
    · cases hi : W i with
      | false =>
        refine .inl fun k hk => ?_
        rcases List.mem_cons.1 hk with h' | h'
        · rw [h']; exact hi
        · exact h k h'
      | true =>
        refine .inr ⟨i, by simp, hi, fun k hk hw => ?_⟩
        rcases List.mem_cons.1 hk with h' | h'
        · rw [h']; exact Nat.le_refl _
        · rw [h k h'] at hw; cases hw
    · cases hi : W i with
      | false =>
        refine .inr ⟨j, by simp [hj], hw, fun k hk hw => ?_⟩
        rcases List.mem_cons.1 hk with h' | h'
        · rw [h', hi] at hw; cases hw
        · exact hl k h' hw
      | true =>
        rcases Nat.le_total i j with h' | h'
        · refine .inr ⟨j, by simp [hj], hw, fun k hk hw => ?_⟩
          rcases List.mem_cons.1 hk with h'' | h''
          · rw [h'']; exact h'
          · exact hl k h'' hw
        · refine .inr ⟨i, by simp, hi, fun k hk hw => ?_⟩
          rcases List.mem_cons.1 hk with h'' | h''
          · rw [h'']; exact Nat.le_refl _
          · exact Nat.le_trans (hl k h'' hw) h'
theorem fold_last {α : Type} (f : SH → α) (W : Nat → Bool) (h0 : ∀ i x, W i = false → f ((pl ps i).ap x) = f x) (h1 : ∀ i x y, W i = true → f ((pl ps i).ap x) = f ((pl ps i).ap y)) {l : List Nat} (hs : l.Pairwise (· < ·)) {i : Nat} (hi : i ∈ l)
    (hw : W i = true) (hl : ∀ k ∈ l, W k = true → k ≤ i) (x y : SH) : f (fold ps l x) = f ((pl ps i).ap y) := by
  obtain ⟨l1, l2, rfl⟩ := List.append_of_mem hi
  rw [fold_append]
  have hp := (List.pairwise_append.1 hs).2.1
  have hgt : ∀ k ∈ l2, i < k := (List.pairwise_cons.1 hp).1
  have : f (fold ps l2 ((pl ps i).ap (fold ps l1 x))) = f ((pl ps i).ap (fold ps l1 x)) := fold_gen f W h0 _ _ fun k hk => by
    cases hc : W k with
    | false => rfl
    | true =>
      have := hl k (by simp [hk]) hc
      have := hgt k hk
      omega
  exact this.trans (h1 i _ _ hw)
def ord (n : Nat) (m : Nat → Bool) : List Nat := (List.range n).filter m
theorem ord_sorted (n : Nat) (m : Nat → Bool) : (ord n m).Pairwise (· < ·) := List.Pairwise.filter _ List.pairwise_lt_range
theorem mem_ord {n : Nat} {m : Nat → Bool} {k : Nat} : k ∈ ord n m ↔ k < n ∧ m k = true := by simp [ord]
theorem fold_same {α : Type} (f : SH → α) (W : Nat → Bool) (h0 : ∀ i x, W i = false → f ((pl ps i).ap x) = f x) (h1 : ∀ i x y, W i = true → f ((pl ps i).ap x) = f ((pl ps i).ap y)) {n : Nat} {m m' : Nat → Bool} (h : ∀ k, k < n → W k = true → m k = m' k) (x : SH) :
    f (fold ps (ord n m) x) = f (fold ps (ord n m') x) := by
  rcases ex_last W (ord n m) with hl | ⟨i, hi, hw, hl⟩
  · rw [fold_gen f W h0 _ _ hl, fold_gen f W h0]
    intro k hk
    rw [mem_ord] at hk
    cases hc : W k with
    | false => rfl
    | true =>
      have := hl k (mem_ord.2 ⟨hk.1, by rw [h k hk.1 hc]; exact hk.2⟩)
      rw [hc] at this; cases this
  · rw [fold_last f W h0 h1 (ord_sorted _ _) hi hw hl x x]
    rw [mem_ord] at hi
    refine (fold_last f W h0 h1 (ord_sorted _ _) (mem_ord.2 ⟨hi.1, by rw [← h i hi.1 hw]; exact hi.2⟩) hw ?_ x x).symm
    intro k hk hw'
    rw [mem_ord] at hk
    exact hl k (mem_ord.2 ⟨hk.1, by rw [h k hk.1 hw']; exact hk.2⟩) hw'
theorem ord_range {i : Nat} : ∀ {n : Nat}, i ≤ n → ord n (fun k => Nat.ble (k + 1) i) = List.range i := by
  intro n h
  induction n with
  | zero =>
    have : i = 0 := by omega
    subst this
    rfl
  | succ n ih =>
    simp only [ord, List.range_succ, List.filter_append] at ih ⊢
    by_cases hi : i = n + 1
    · subst hi
      have e1 : (List.range n).filter (fun k => Nat.ble (k + 1) (n + 1)) = List.range n := by
        rw [List.filter_eq_self]
        intro k hk
        rw [List.mem_range] at hk
        exact Nat.ble_eq_true_of_le (by omega)
      rw [e1]
      have e2 : Nat.ble (n + 1) (n + 1) = true := Nat.ble_eq_true_of_le (Nat.le_refl _)
      simp [e2, List.range_succ]
    · rw [ih (by omega)]
      have : Nat.ble (n + 1) i = false := by
        cases hb : Nat.ble (n + 1) i with
        | false => rfl
        | true => have := Nat.le_of_ble_eq_true hb; omega
      simp [this]
end
theorem objAt_same {H H' : Heap} {O : List Heap} (h : ∀ nm, look H' nm = look H nm) : objAt (H' :: O) = objAt (H :: O) := by
  funext d nm
  cases d with
  | zero => simpa [objAt] using h nm
  | succ d => simp [objAt]
theorem shape_same {H H' : Heap} {O : List Heap} (h : ∀ nm, look H' nm = look H nm) : shape (H' :: O) = shape (H :: O) := by
  funext d nm
  simp only [shape, objAt_same h]
theorem HInv.same {E : Env} {K : Kn} {ρ : Nat → Nat → Loc} {H H' : Heap} {O : List Heap} {w : World} (hi : HInv E K ρ (H :: O) w) (h : ∀ nm, look H' nm = look H nm) : HInv E K ρ (H' :: O) w := by
  have e := objAt_same (O := O) h
  have e2 := shape_same (O := O) h
  refine ⟨hi.holds, fun d nm ob h1 => ?_, fun d nm ob d' nm' ob' h1 h2 => ?_, hi.size, fun b hb hno => hi.old b hb ?_, fun nm ob h1 => ?_, hi.outer, hi.Kle, hi.Knew, hi.rest⟩
  · rw [e] at h1
    have h2 := hi.own _ _ _ h1
    have e3 : shape ((H' :: O).drop d) = shape ((H :: O).drop d) := by
      cases d with
      | zero => simpa using e2
      | succ d => simp
    rw [e3]; exact h2
  · rw [e] at h1 h2
    exact hi.inj _ _ _ _ _ _ h1 h2
  · intro d nm ob h1
    exact hno d nm ob (by rw [e]; exact h1)
  · rw [e] at h1; exact hi.loc _ _ h1
def StepOK (c : Cx) (ops : Array Oper) (O : List Heap) (n : Nat) (o : Oper) (v : SH) (p : Pl) : Prop :=
  (wantedD ops (St.of O n v) o = some false ∧ ∃ t, o.dst = some t ∧ t < n ∧ p = ⟨[(t, .tup [])], [], none⟩) ∨
  (wantedD ops (St.of O n v) o = some true ∧ ∀ E, EOk c.E E O → ∀ K ρ a w, Inv E K ρ (St.of O n v) a w → ∀ (next : Act → World → Prop) (Qe : Exit → Act → World → Prop),
    (∀ val w' σ' K' ρ', K.le K' → Keeps p.rem ρ ρ' (shape (v.2 :: O)) (shape ((p.adds ++ rmv p.rem v.2) :: O)) → Inv E K' ρ' { σ := σ', S := (p.adds ++ rmv p.rem v.2) :: O, n := n } (a.put o.dst val) w' →
      (∀ t d, look p.sets t = some d → d = .dead ∨ look σ' t = some d) → next (a.put o.dst val) w') → o.wp c.P a w next Qe)
theorem put_other {a : Act} {dst : Option Nat} {v : Value} {t : Nat} (h : dst ≠ some t) : (a.put dst v).tmps.getD t undef = a.tmps.getD t undef := by
  cases dst with
  | none => rfl
  | some d =>
    have hne : d ≠ t := fun e => h (by rw [e])
    simp only [Act.put, Array.getD_eq_getD_getElem?]
    rw [Array.getElem?_setIfInBounds_ne hne]
theorem put_size (a : Act) (dst : Option Nat) (v : Value) : (a.put dst v).tmps.size = a.tmps.size := by
  cases dst <;> simp [Act.put]
theorem put_defers (a : Act) (dst : Option Nat) (v : Value) : (a.put dst v).defers = a.defers := by
  cases dst <;> simp [Act.put]
structure Fits (x v : SH) (o : Oper) (p : Pl) : Prop where
  v1 : ∀ t d, look v.1 t = some d → look x.1 t = some d
  v2 : ∀ nm ob, look v.2 nm = some ob → look x.2 nm = some ob
  w1 : ∀ t d, look v.1 t = some d → d.within (has v.2) = true
  w2 : ∀ nm ob, look v.2 nm = some ob → ob.within (has v.2) = true
  dst : ∀ t, o.dst = some t → hasK p.sets t = true
  fresh : ∀ nm, hasK p.adds nm = true → has x.2 nm = true → has v.2 nm = true
  k1 : ∀ t d, look x.1 t = some d → hasK p.sets t = false → d.within (butG p.rem) = true
  k2 : ∀ nm ob, look x.2 nm = some ob → look v.2 nm = none → ob.within (butG p.rem) = true
  g : ∀ g, p.rem = some g → has v.2 g = true
theorem step_frame {c : Cx} {ops : Array Oper} {O : List Heap} {n i : Nat} {o : Oper} {v x y : SH} {p : Pl} (ho : ops[i]? = some o) (hs : StepOK c ops O n o v p) (hf : Fits x v o p)
    (hy1 : ∀ t, look y.1 t = look (p.ap x).1 t) (hy2 : ∀ nm, look y.2 nm = look (p.ap x).2 nm) {K : Kn} {ρ : Nat → Nat → Loc} {a : Act} {w : World} (hi : Inv c.E K ρ (St.of O n x) a w)
    {Q : Exit → Act → World → Prop} {next : Act → World → Prop} (hn : ∀ a' w' K' ρ', Inv c.E K' ρ' (St.of O n y) a' w' → next a' w') : wpOp c.P ops Q i next a w := by
  have hh : HInv c.E K ρ (x.2 :: O) w := hi.h
  have hI : HInv (fr hh v.2) K ρ (v.2 :: O) w := hh.part hf.v2 hf.w2
  have hInv : Inv (fr hh v.2) K ρ (St.of O n v) a w := ⟨hI, hi.defers, hi.size, fun t d e => (hi.slots t d (hf.v1 _ _ e)).move (shape_part hf.v2) (hf.w1 _ _ e)⟩
  have hdst : ∀ t, look p.sets t = none → o.dst ≠ some t := fun t e h => by
    have := hf.dst t h
    rw [hasK_not.2 e] at this; cases this
  unfold wpOp
  rw [ho]
  dsimp only
  rcases hs with ⟨hw, t, ht, htn, rfl⟩ | ⟨hw, hs⟩
  · rw [wanted_of hInv hw]
    rw [if_neg (by simp)]
    refine hn _ _ K ρ ⟨hh.same fun nm => by rw [hy2]; simp [Pl.ap, rmv], by rw [put_defers]; exact hi.defers, by rw [put_size]; exact hi.size, fun t' d e => ?_⟩
    have hsh : shape (St.of O n y).S = shape (x.2 :: O) := shape_same fun nm => by rw [hy2]; simp [Pl.ap, rmv]
    rw [hsh]
    have e' : look y.1 t' = some d := e
    rw [hy1, ap_S] at e'
    by_cases htt : t = t'
    · subst htt
      simp [look_cons] at e'
      subst e'
      have hts : t < a.tmps.size := by rw [hi.size]; exact htn
      have hval : (a.put o.dst undef).tmps.getD t undef = .tuple ([] : List Value).toArray := by
        rw [ht, tmps_put hts, if_pos rfl]; rfl
      rw [hval]
      exact .tup .nil
    · have hnone : look [(t, D.tup [])] t' = none := by rw [look_cons, if_neg htt]; rfl
      rw [hnone] at e'
      rw [put_other (by rw [ht]; simpa using htt)]
      exact hi.slots _ _ e'
  · rw [wanted_of hInv hw]
    rw [if_pos rfl]
    refine .inl (hs _ (eok_fr hh v.2) K ρ a w hInv next Q fun val w' σ' K' ρ' hle hk hI' hset => ?_)
    have hjoin : Joins x.2 v.2 (p.adds ++ rmv p.rem v.2) y.2 := by
      intro nm
      rw [hy2, ap_H, look_append]
      cases h1 : look p.adds nm with
      | some ob => rfl
      | none =>
        simp only [look_rmv]
        by_cases hg : p.rem = some nm
        · rw [if_pos hg, if_pos hg]
          obtain ⟨ob, h2⟩ := has_iff.1 (hf.g _ hg)
          simp [h2]
        · rw [if_neg hg, if_neg hg]
          cases h2 : look v.2 nm with
          | some ob => simp [hf.v2 _ _ h2]
          | none => rfl
    have hfr : ∀ nm, has (p.adds ++ rmv p.rem v.2) nm = true → has x.2 nm = true → has v.2 nm = true := by
      intro nm h1 h2
      obtain ⟨ob, h1⟩ := has_iff.1 h1
      rw [look_append] at h1
      cases h3 : look p.adds nm with
      | some ob' => exact hf.fresh nm (hasK_iff.2 ⟨_, h3⟩) h2
      | none =>
        rw [h3] at h1
        simp only [look_rmv] at h1
        split at h1
        · cases h1
        · exact has_iff.2 ⟨_, h1⟩
    obtain ⟨ρ'', h1, h2, h3⟩ := hh.join hI'.h hf.v2 hk hfr hf.k2 hjoin
    refine hn _ _ K' ρ'' ⟨h1, hI'.defers, hI'.size, fun t d e => ?_⟩
    have e' : look y.1 t = some d := e
    rw [hy1, ap_S] at e'
    cases hl : look p.sets t with
    | some d' =>
      rw [hl] at e'
      simp only [Option.some.injEq] at e'
      subst e'
      rcases hset _ _ hl with rfl | h4
      · exact .dead _
      · exact (hI'.slots _ _ h4).stays h3
    | none =>
      rw [hl] at e'
      rw [put_other (hdst _ hl)]
      exact (hi.slots _ _ e').move h2 (hf.k1 _ _ e' (hasK_not.2 hl))
end Go.AI
