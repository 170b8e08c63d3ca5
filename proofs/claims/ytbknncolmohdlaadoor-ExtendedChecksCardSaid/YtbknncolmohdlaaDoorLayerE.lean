/- The layer of abstract runs, part 5. -/
import Derived.Test.YtbknncolmohdlaaDoorLayerD
import Derived.Orders
set_option linter.unusedSimpArgs false
set_option linter.unusedVariables false
set_option linter.all false
/- A region whose order is drawn: each order leads to the state of the text's order. -/
namespace Go.AI

/-- Slots and the own frame's objects. -/
abbrev SH := List (Nat × D) × Heap
def St.of (O : List Heap) (n : Nat) (x : SH) : St := { σ := x.1, S := x.2 :: O, n := n }

/-- What an operation does. -/
structure Pl where
  sets : List (Nat × D)
  adds : Heap
  rem : Option Nat

def rmv1 (g : Nat) : Heap → Heap
  | [] => []
  | (n, o) :: r => bif Nat.beq n g then rmv1 g r else (n, o) :: rmv1 g r
def rmv (g : Option Nat) (H : Heap) : Heap := match g with
  | none => H
  | some g => rmv1 g H
theorem look_rmv1 (g : Nat) : ∀ (H : Heap) (n : Nat), look (rmv1 g H) n = if n = g then none else look H n
  | [], n => by simp [rmv1, look]
  | (k, o) :: r, n => by
    simp only [rmv1]
    by_cases h : k = g
    · subst h
      simp only [Nat.beq_refl, cond_true, look_rmv1 k r n, look_cons]
      by_cases hn : n = k
      · subst hn; simp
      · simp [hn, Ne.symm hn]
    · have : Nat.beq k g = false := by
        cases hb : Nat.beq k g with
        | false => rfl
        | true => exact absurd (Nat.eq_of_beq_eq_true hb) h
      rw [this, cond_false, look_cons, look_cons, look_rmv1 g r n]
      by_cases hn : k = n
      · subst hn; simp [h]
      · simp [hn]
theorem look_rmv (g : Option Nat) (H : Heap) (n : Nat) : look (rmv g H) n = if g = some n then none else look H n := by
  cases g with
  | none => simp [rmv]
  | some g =>
    simp only [rmv, look_rmv1]
    by_cases h : n = g
    · subst h; simp
    · simp [h, Ne.symm h]

def Pl.ap (p : Pl) (x : SH) : SH := (p.sets ++ x.1, p.adds ++ rmv p.rem x.2)
def pl (ps : List Pl) (i : Nat) : Pl := match ps[i]? with
  | some p => p
  | none => ⟨[], [], none⟩
def hasK {α : Type} (l : List (Nat × α)) (t : Nat) : Bool := match look l t with
  | some _ => true
  | none => false
theorem hasK_iff {α : Type} {l : List (Nat × α)} {t : Nat} : hasK l t = true ↔ ∃ x, look l t = some x := by
  unfold hasK
  cases look l t <;> simp
theorem hasK_not {α : Type} {l : List (Nat × α)} {t : Nat} : hasK l t = false ↔ look l t = none := by
  unfold hasK
  cases look l t <;> simp
def wS (ps : List Pl) (t i : Nat) : Bool := hasK (pl ps i).sets t
def isG (g : Option Nat) (n : Nat) : Bool := match g with
  | none => false
  | some x => Nat.beq x n
theorem isG_iff {g : Option Nat} {n : Nat} : isG g n = true ↔ g = some n := by
  cases g with
  | none => simp [isG]
  | some x => simp [isG]
def wH (ps : List Pl) (n i : Nat) : Bool := hasK (pl ps i).adds n || isG (pl ps i).rem n
def fold (ps : List Pl) (l : List Nat) (x : SH) : SH := l.foldl (fun x i => (pl ps i).ap x) x

section
variable {ps : List Pl}
theorem ap_S (p : Pl) (x : SH) (t : Nat) : look (p.ap x).1 t = match look p.sets t with
    | some d => some d
    | none => look x.1 t := by
  simp only [Pl.ap, look_append]
  cases look p.sets t <;> rfl
def lookP (p : Pl) (n : Nat) : Option Ob := look p.adds n
theorem ap_H (p : Pl) (x : SH) (n : Nat) : look (p.ap x).2 n = match look p.adds n with
    | some d => some d
    | none => if p.rem = some n then none else look x.2 n := by
  simp only [Pl.ap, look_append, look_rmv]
  cases look p.adds n <;> rfl
theorem ap_S_not {t i : Nat} (h : wS ps t i = false) (x : SH) : look ((pl ps i).ap x).1 t = look x.1 t := by
  rw [ap_S, hasK_not.1 h]
theorem ap_H_not {t i : Nat} (h : wH ps t i = false) (x : SH) : look ((pl ps i).ap x).2 t = look x.2 t := by
  simp only [wH, Bool.or_eq_false_iff] at h
  rw [ap_H, hasK_not.1 h.1]
  have : ¬ (pl ps i).rem = some t := fun e => by rw [isG_iff.2 e] at h; cases h.2
  simp [this]
theorem ap_S_w {t i : Nat} (h : wS ps t i = true) (x y : SH) : look ((pl ps i).ap x).1 t = look ((pl ps i).ap y).1 t := by
  obtain ⟨d, hd⟩ := hasK_iff.1 h
  rw [ap_S, ap_S, hd]
theorem ap_H_w {t i : Nat} (h : wH ps t i = true) (x y : SH) : look ((pl ps i).ap x).2 t = look ((pl ps i).ap y).2 t := by
  rw [ap_H, ap_H]
  cases hl : look (pl ps i).adds t with
  | some d => rfl
  | none =>
    have : (pl ps i).rem = some t := by
      simp only [wH, hasK_not.2 hl, Bool.false_or] at h
      exact isG_iff.1 h
    simp [this]
theorem fold_append (l l' : List Nat) (x : SH) : fold ps (l ++ l') x = fold ps l' (fold ps l x) := List.foldl_append
/-- Generic: what is read of the state is written by some operations. -/
theorem fold_gen {α : Type} (f : SH → α) (W : Nat → Bool) (h0 : ∀ i x, W i = false → f ((pl ps i).ap x) = f x) : ∀ (l : List Nat) (x : SH), (∀ k ∈ l, W k = false) → f (fold ps l x) = f x
  | [], x, _ => rfl
  | i :: l, x, h => by
    have h1 := fold_gen f W h0 l ((pl ps i).ap x) fun k hk => h k (by simp [hk])
    have h2 := h0 i x (h i (by simp))
    rw [← h2, ← h1]
    rfl
theorem ex_last (W : Nat → Bool) : ∀ l : List Nat, (∀ k ∈ l, W k = false) ∨ ∃ i ∈ l, W i = true ∧ ∀ k ∈ l, W k = true → k ≤ i
  | [] => .inl (by simp)
  | i :: l => by
    rcases ex_last W l with h | ⟨j, hj, hw, hl⟩
    · cases hi : W i with
      | false =>
        refine .inl fun k hk => ?_
        rcases List.mem_cons.1 hk with h' | h'
        · rw [h']; exact hi
        · exact h k h'
      | true =>
        refine .inr ⟨i, by simp, hi, fun k hk hw => ?_⟩
        rcases List.mem_cons.1 hk with h' | h'
        · rw [h']; exact Nat.le_refl _
        · rw [h k h'] at hw; cases hw
    · cases hi : W i with
      | false =>
        refine .inr ⟨j, by simp [hj], hw, fun k hk hw => ?_⟩
        rcases List.mem_cons.1 hk with h' | h'
        · rw [h', hi] at hw; cases hw
        · exact hl k h' hw
      | true =>
        rcases Nat.le_total i j with h' | h'
        · refine .inr ⟨j, by simp [hj], hw, fun k hk hw => ?_⟩
          rcases List.mem_cons.1 hk with h'' | h''
          · rw [h'']; exact h'
          · exact hl k h'' hw
        · refine .inr ⟨i, by simp, hi, fun k hk hw => ?_⟩
          rcases List.mem_cons.1 hk with h'' | h''
          · rw [h'']; exact Nat.le_refl _
          · exact Nat.le_trans (hl k h'' hw) h'
theorem fold_last {α : Type} (f : SH → α) (W : Nat → Bool) (h0 : ∀ i x, W i = false → f ((pl ps i).ap x) = f x) (h1 : ∀ i x y, W i = true → f ((pl ps i).ap x) = f ((pl ps i).ap y)) {l : List Nat} (hs : l.Pairwise (· < ·)) {i : Nat} (hi : i ∈ l)
    (hw : W i = true) (hl : ∀ k ∈ l, W k = true → k ≤ i) (x y : SH) : f (fold ps l x) = f ((pl ps i).ap y) := by
  obtain ⟨l1, l2, rfl⟩ := List.append_of_mem hi
  rw [fold_append]
  have hp := (List.pairwise_append.1 hs).2.1
  have hgt : ∀ k ∈ l2, i < k := (List.pairwise_cons.1 hp).1
  have : f (fold ps l2 ((pl ps i).ap (fold ps l1 x))) = f ((pl ps i).ap (fold ps l1 x)) := fold_gen f W h0 _ _ fun k hk => by
    cases hc : W k with
    | false => rfl
    | true =>
      have := hl k (by simp [hk]) hc
      have := hgt k hk
      omega
  exact this.trans (h1 i _ _ hw)
def ord (n : Nat) (m : Nat → Bool) : List Nat := (List.range n).filter m
theorem ord_sorted (n : Nat) (m : Nat → Bool) : (ord n m).Pairwise (· < ·) := List.Pairwise.filter _ List.pairwise_lt_range
theorem mem_ord {n : Nat} {m : Nat → Bool} {k : Nat} : k ∈ ord n m ↔ k < n ∧ m k = true := by simp [ord]
theorem fold_same {α : Type} (f : SH → α) (W : Nat → Bool) (h0 : ∀ i x, W i = false → f ((pl ps i).ap x) = f x) (h1 : ∀ i x y, W i = true → f ((pl ps i).ap x) = f ((pl ps i).ap y)) {n : Nat} {m m' : Nat → Bool} (h : ∀ k, k < n → W k = true → m k = m' k) (x : SH) :
    f (fold ps (ord n m) x) = f (fold ps (ord n m') x) := by
  rcases ex_last W (ord n m) with hl | ⟨i, hi, hw, hl⟩
  · rw [fold_gen f W h0 _ _ hl, fold_gen f W h0]
    intro k hk
    rw [mem_ord] at hk
    cases hc : W k with
    | false => rfl
    | true =>
      have := hl k (mem_ord.2 ⟨hk.1, by rw [h k hk.1 hc]; exact hk.2⟩)
      rw [hc] at this; cases this
  · rw [fold_last f W h0 h1 (ord_sorted _ _) hi hw hl x x]
    rw [mem_ord] at hi
    refine (fold_last f W h0 h1 (ord_sorted _ _) (mem_ord.2 ⟨hi.1, by rw [← h i hi.1 hw]; exact hi.2⟩) hw ?_ x x).symm
    intro k hk hw'
    rw [mem_ord] at hk
    exact hl k (mem_ord.2 ⟨hk.1, by rw [h k hk.1 hw']; exact hk.2⟩) hw'
theorem ord_range {i : Nat} : ∀ {n : Nat}, i ≤ n → ord n (fun k => Nat.ble (k + 1) i) = List.range i := by
  intro n h
  induction n with
  | zero =>
    have : i = 0 := by omega
    subst this
    rfl
  | succ n ih =>
    simp only [ord, List.range_succ, List.filter_append] at ih ⊢
    by_cases hi : i = n + 1
    · subst hi
      have e1 : (List.range n).filter (fun k => Nat.ble (k + 1) (n + 1)) = List.range n := by
        rw [List.filter_eq_self]
        intro k hk
        rw [List.mem_range] at hk
        exact Nat.ble_eq_true_of_le (by omega)
      rw [e1]
      have e2 : Nat.ble (n + 1) (n + 1) = true := Nat.ble_eq_true_of_le (Nat.le_refl _)
      simp [e2, List.range_succ]
    · rw [ih (by omega)]
      have : Nat.ble (n + 1) i = false := by
        cases hb : Nat.ble (n + 1) i with
        | false => rfl
        | true => have := Nat.le_of_ble_eq_true hb; omega
      simp [this]
end

theorem objAt_same {H H' : Heap} {O : List Heap} (h : ∀ nm, look H' nm = look H nm) : objAt (H' :: O) = objAt (H :: O) := by
  funext d nm
  cases d with
  | zero => simpa [objAt] using h nm
  | succ d => simp [objAt]
theorem shape_same {H H' : Heap} {O : List Heap} (h : ∀ nm, look H' nm = look H nm) : shape (H' :: O) = shape (H :: O) := by
  funext d nm
  simp only [shape, objAt_same h]
theorem HInv.same {E : Env} {K : Kn} {ρ : Nat → Nat → Loc} {H H' : Heap} {O : List Heap} {w : World} (hi : HInv E K ρ (H :: O) w) (h : ∀ nm, look H' nm = look H nm) : HInv E K ρ (H' :: O) w := by
  have e := objAt_same (O := O) h
  have e2 := shape_same (O := O) h
  refine ⟨hi.holds, fun d nm ob h1 => ?_, fun d nm ob d' nm' ob' h1 h2 => ?_, hi.size, fun b hb hno => hi.old b hb ?_, fun nm ob h1 => ?_, hi.outer, hi.Kle, hi.Knew, hi.rest⟩
  · rw [e] at h1
    have h2 := hi.own _ _ _ h1
    have e3 : shape ((H' :: O).drop d) = shape ((H :: O).drop d) := by
      cases d with
      | zero => simpa using e2
      | succ d => simp
    rw [e3]; exact h2
  · rw [e] at h1 h2
    exact hi.inj _ _ _ _ _ _ h1 h2
  · intro d nm ob h1
    exact hno d nm ob (by rw [e]; exact h1)
  · rw [e] at h1; exact hi.loc _ _ h1

/-- What an operation does on its view, whatever else must be left as it is. -/
def StepOK (c : Cx) (ops : Array Oper) (O : List Heap) (n : Nat) (o : Oper) (v : SH) (p : Pl) : Prop :=
  (wantedD ops (St.of O n v) o = some false ∧ ∃ t, o.dst = some t ∧ t < n ∧ p = ⟨[(t, .tup [])], [], none⟩) ∨
  (wantedD ops (St.of O n v) o = some true ∧ ∀ E K ρ a w, Inv E K ρ (St.of O n v) a w → ∀ (next : Act → World → Prop) (Qe : Exit → Act → World → Prop),
    (∀ val w' σ' K' ρ', K.le K' → Keeps p.rem ρ ρ' (shape (v.2 :: O)) (shape ((p.adds ++ rmv p.rem v.2) :: O)) → Inv E K' ρ' { σ := σ', S := (p.adds ++ rmv p.rem v.2) :: O, n := n } (a.put o.dst val) w' →
      (∀ t d, look p.sets t = some d → d = .dead ∨ look σ' t = some d) → next (a.put o.dst val) w') → o.wp c.P a w next Qe)

theorem put_other {a : Act} {dst : Option Nat} {v : Value} {t : Nat} (h : dst ≠ some t) : (a.put dst v).tmps.getD t undef = a.tmps.getD t undef := by
  cases dst with
  | none => rfl
  | some d =>
    have hne : d ≠ t := fun e => h (by rw [e])
    simp only [Act.put, Array.getD_eq_getD_getElem?]
    rw [Array.getElem?_setIfInBounds_ne hne]
theorem put_size (a : Act) (dst : Option Nat) (v : Value) : (a.put dst v).tmps.size = a.tmps.size := by
  cases dst <;> simp [Act.put]
theorem put_defers (a : Act) (dst : Option Nat) (v : Value) : (a.put dst v).defers = a.defers := by
  cases dst <;> simp [Act.put]

structure Fits (x v : SH) (o : Oper) (p : Pl) : Prop where
  v1 : ∀ t d, look v.1 t = some d → look x.1 t = some d
  v2 : ∀ nm ob, look v.2 nm = some ob → look x.2 nm = some ob
  w1 : ∀ t d, look v.1 t = some d → d.within (has v.2) = true
  w2 : ∀ nm ob, look v.2 nm = some ob → ob.within (has v.2) = true
  dst : ∀ t, o.dst = some t → hasK p.sets t = true
  fresh : ∀ nm, hasK p.adds nm = true → has x.2 nm = true → has v.2 nm = true
  k1 : ∀ t d, look x.1 t = some d → hasK p.sets t = false → d.within (butG p.rem) = true
  k2 : ∀ nm ob, look x.2 nm = some ob → look v.2 nm = none → ob.within (butG p.rem) = true
  g : ∀ g, p.rem = some g → has v.2 g = true

theorem step_frame {c : Cx} {ops : Array Oper} {O : List Heap} {n i : Nat} {o : Oper} {v x y : SH} {p : Pl} (ho : ops[i]? = some o) (hs : StepOK c ops O n o v p) (hf : Fits x v o p)
    (hy1 : ∀ t, look y.1 t = look (p.ap x).1 t) (hy2 : ∀ nm, look y.2 nm = look (p.ap x).2 nm) {E : Env} {K : Kn} {ρ : Nat → Nat → Loc} {a : Act} {w : World} (hi : Inv E K ρ (St.of O n x) a w)
    {Q : Exit → Act → World → Prop} {next : Act → World → Prop} (hn : ∀ a' w' K' ρ', Inv E K' ρ' (St.of O n y) a' w' → next a' w') : wpOp c.P ops Q i next a w := by
  have hh : HInv E K ρ (x.2 :: O) w := hi.h
  have hI : HInv (fr hh v.2) K ρ (v.2 :: O) w := hh.part hf.v2 hf.w2
  have hInv : Inv (fr hh v.2) K ρ (St.of O n v) a w := ⟨hI, hi.defers, hi.size, fun t d e => (hi.slots t d (hf.v1 _ _ e)).move (shape_part hf.v2) (hf.w1 _ _ e)⟩
  have hdst : ∀ t, look p.sets t = none → o.dst ≠ some t := fun t e h => by
    have := hf.dst t h
    rw [hasK_not.2 e] at this; cases this
  unfold wpOp
  rw [ho]
  dsimp only
  rcases hs with ⟨hw, t, ht, htn, rfl⟩ | ⟨hw, hs⟩
  · rw [wanted_of hInv hw]
    rw [if_neg (by simp)]
    refine hn _ _ K ρ ⟨hh.same fun nm => by rw [hy2]; simp [Pl.ap, rmv], by rw [put_defers]; exact hi.defers, by rw [put_size]; exact hi.size, fun t' d e => ?_⟩
    have hsh : shape (St.of O n y).S = shape (x.2 :: O) := shape_same fun nm => by rw [hy2]; simp [Pl.ap, rmv]
    rw [hsh]
    have e' : look y.1 t' = some d := e
    rw [hy1, ap_S] at e'
    by_cases htt : t = t'
    · subst htt
      simp [look_cons] at e'
      subst e'
      have hts : t < a.tmps.size := by rw [hi.size]; exact htn
      have hval : (a.put o.dst undef).tmps.getD t undef = .tuple ([] : List Value).toArray := by
        rw [ht, tmps_put hts, if_pos rfl]; rfl
      rw [hval]
      exact .tup .nil
    · have hnone : look [(t, D.tup [])] t' = none := by rw [look_cons, if_neg htt]; rfl
      rw [hnone] at e'
      rw [put_other (by rw [ht]; simpa using htt)]
      exact hi.slots _ _ e'
  · rw [wanted_of hInv hw]
    rw [if_pos rfl]
    refine .inl (hs _ K ρ a w hInv next Q fun val w' σ' K' ρ' hle hk hI' hset => ?_)
    have hjoin : Joins x.2 v.2 (p.adds ++ rmv p.rem v.2) y.2 := by
      intro nm
      rw [hy2, ap_H, look_append]
      cases h1 : look p.adds nm with
      | some ob => rfl
      | none =>
        simp only [look_rmv]
        by_cases hg : p.rem = some nm
        · rw [if_pos hg, if_pos hg]
          obtain ⟨ob, h2⟩ := has_iff.1 (hf.g _ hg)
          simp [h2]
        · rw [if_neg hg, if_neg hg]
          cases h2 : look v.2 nm with
          | some ob => simp [hf.v2 _ _ h2]
          | none => rfl
    have hfr : ∀ nm, has (p.adds ++ rmv p.rem v.2) nm = true → has x.2 nm = true → has v.2 nm = true := by
      intro nm h1 h2
      obtain ⟨ob, h1⟩ := has_iff.1 h1
      rw [look_append] at h1
      cases h3 : look p.adds nm with
      | some ob' => exact hf.fresh nm (hasK_iff.2 ⟨_, h3⟩) h2
      | none =>
        rw [h3] at h1
        simp only [look_rmv] at h1
        split at h1
        · cases h1
        · exact has_iff.2 ⟨_, h1⟩
    obtain ⟨ρ'', h1, h2, h3⟩ := hh.join hI'.h hf.v2 hk hfr hf.k2 hjoin
    refine hn _ _ K' ρ'' ⟨h1, hI'.defers, hI'.size, fun t d e => ?_⟩
    have e' : look y.1 t = some d := e
    rw [hy1, ap_S] at e'
    cases hl : look p.sets t with
    | some d' =>
      rw [hl] at e'
      simp only [Option.some.injEq] at e'
      subst e'
      rcases hset _ _ hl with rfl | h4
      · exact .dead _
      · exact (hI'.slots _ _ h4).stays h3
    | none =>
      rw [hl] at e'
      rw [put_other (hdst _ hl)]
      exact (hi.slots _ _ e').move h2 (hf.k1 _ _ e' (hasK_not.2 hl))
end Go.AI

/- A region whose order is drawn: the theorem. -/
namespace Go.AI

def memN : List Nat → Nat → Bool
  | [], _ => false
  | x :: r, n => bif Nat.beq x n then true else memN r n
theorem memN_iff {n : Nat} : ∀ {l : List Nat}, memN l n = true ↔ n ∈ l
  | [] => by simp [memN]
  | x :: r => by
    simp only [memN, List.mem_cons]
    by_cases h : x = n
    · subst h; simp
    · have : Nat.beq x n = false := by
        cases hb : Nat.beq x n with
        | false => rfl
        | true => exact absurd (Nat.eq_of_beq_eq_true hb) h
      rw [this, cond_false, memN_iff]
      simp [Ne.symm h]
def uni (a : List Nat) : List Nat → List Nat
  | [] => a
  | x :: r => bif memN a x then uni a r else uni (x :: a) r
def befores (o : Oper) : List Nat := (o.after.toList.filter fun e => Region.binds .any e).map (·.on)
def getL (l : List (List Nat)) (i : Nat) : List Nat := match l[i]? with
  | some x => x
  | none => []
def presGo : List Oper → List (List Nat) → List (List Nat)
  | [], acc => acc
  | o :: r, acc => presGo r (acc ++ [(befores o).foldl (fun l j => uni (uni l [j]) (getL acc j)) []])
def allN : Nat → (Nat → Bool) → Bool
  | 0, _ => true
  | n + 1, f => f n && allN n f
theorem allN_iff {f : Nat → Bool} : ∀ {n : Nat}, allN n f = true → ∀ k, k < n → f k = true
  | 0, _, k, h => absurd h (Nat.not_lt_zero _)
  | n + 1, h, k, hk => by
    simp only [allN, Bool.and_eq_true] at h
    by_cases e : k = n
    · subst e; exact h.1
    · exact allN_iff h.2 k (by omega)
def preOk (ops : Array Oper) (pre : List (List Nat)) : Bool :=
  allN ops.size fun i => match ops[i]? with
    | some o => (befores o).all (fun j => Nat.ble (j + 1) i) && (getL pre i).all fun j => (befores o).any fun k => Nat.beq k j || memN (getL pre k) j
    | none => true

/-- Down-closed. -/
def Closed (ops : Array Oper) (L : Nat → Bool) : Prop := ∀ i o, ops[i]? = some o → L i = true → ∀ j ∈ befores o, L j = true
theorem pre_lt {ops : Array Oper} {pre : List (List Nat)} (h : preOk ops pre = true) : ∀ i o, ops[i]? = some o → (∀ j ∈ befores o, j < i) ∧ ∀ j ∈ getL pre i, ∃ k ∈ befores o, k = j ∨ j ∈ getL pre k := by
  intro i o ho
  have hlt : i < ops.size := (Array.getElem?_eq_some_iff.1 ho).1
  have h1 := allN_iff h i hlt
  simp only [ho, Bool.and_eq_true, List.all_eq_true, List.any_eq_true, Bool.or_eq_true] at h1
  refine ⟨fun j hj => Nat.le_of_ble_eq_true (h1.1 j hj), fun j hj => ?_⟩
  obtain ⟨k, hk, h2⟩ := h1.2 j hj
  exact ⟨k, hk, h2.imp Nat.eq_of_beq_eq_true memN_iff.1⟩
theorem pre_down {ops : Array Oper} {pre : List (List Nat)} (h : preOk ops pre = true) {L : Nat → Bool} (hc : Closed ops L) : ∀ (n i : Nat) (o : Oper), i < n → ops[i]? = some o → (∀ j ∈ befores o, L j = true) → ∀ j ∈ getL pre i, L j = true ∧ j < i := by
  intro n
  induction n with
  | zero => intro i o hi; omega
  | succ n ih =>
    intro i o hi ho hb j hj
    obtain ⟨h1, h2⟩ := pre_lt h i o ho
    obtain ⟨k, hk, h3⟩ := h2 j hj
    have hk1 := h1 k hk
    rcases h3 with rfl | h3
    · exact ⟨hb _ hk, hk1⟩
    · have hlt : i < ops.size := (Array.getElem?_eq_some_iff.1 ho).1
      obtain ⟨ok, hok⟩ : ∃ ok, ops[k]? = some ok := ⟨ops[k]'(by omega), by rw [Array.getElem?_eq_getElem]⟩
      have := ih k ok (by omega) hok (hc k ok hok (hb k hk)) j h3
      exact ⟨this.1, by omega⟩

/- Views. -/
def restr {α : Type} (l : List (Nat × α)) : List Nat → List (Nat × α)
  | [] => []
  | t :: r => match look l t with
    | some d => (t, d) :: restr l r
    | none => restr l r
theorem restr_look {α : Type} {l : List (Nat × α)} {t : Nat} {d : α} : ∀ {ks : List Nat}, look (restr l ks) t = some d → look l t = some d
  | [], h => by simp [restr, look] at h
  | k :: r, h => by
    simp only [restr] at h
    split at h
    · rename_i x hx
      rw [look_cons] at h
      split at h
      · rename_i e; subst e; rw [hx]; exact h
      · exact restr_look h
    · exact restr_look h
mutual
def D.names : D → List Nat
  | .own 0 nm _ _ => [nm]
  | .osl 0 nm => [nm]
  | .agg cs => D.namesL cs
  | .tup cs => D.namesL cs
  | .fn _ a b => D.namesL a ++ D.namesL b
  | _ => []
def D.namesL : List D → List Nat
  | [] => []
  | d :: r => d.names ++ D.namesL r
end
def Ob.names : Ob → List Nat
  | .box cs => D.namesL cs
  | _ => []
def namesS : List (Nat × D) → List Nat
  | [] => []
  | (_, d) :: r => d.names ++ namesS r
def namesH : Heap → List Nat
  | [] => []
  | (_, o) :: r => o.names ++ namesH r
def viewOf (ops : Array Oper) (o : Oper) (x : SH) : SH :=
  let vs := restr x.1 (o.looksAt ops)
  let n1 := namesS vs
  (vs, restr x.2 (n1 ++ namesH (restr x.2 n1)))

def keys {α : Type} : List (Nat × α) → List Nat
  | [] => []
  | (k, _) :: r => k :: keys r
theorem mem_keys {α : Type} {t : Nat} {d : α} : ∀ {l : List (Nat × α)}, look l t = some d → t ∈ keys l
  | [], h => by simp [look] at h
  | (k, x) :: r, h => by
    rw [look_cons] at h
    simp only [keys, List.mem_cons]
    split at h
    · rename_i e; exact .inl e.symm
    · exact .inr (mem_keys h)
def allS (f : Nat → D → Bool) : List (Nat × D) → Bool
  | [] => true
  | (t, d) :: r => f t d && allS f r
theorem allS_look {f : Nat → D → Bool} {t : Nat} {d : D} : ∀ {l : List (Nat × D)}, allS f l = true → look l t = some d → f t d = true
  | [], _, h => by simp [look] at h
  | (k, x) :: r, h1, h => by
    simp only [allS, Bool.and_eq_true] at h1
    rw [look_cons] at h
    split at h
    · rename_i e; subst e; simp only [Option.some.injEq] at h; subst h; exact h1.1
    · exact allS_look h1.2 h
def allH (f : Nat → Ob → Bool) : Heap → Bool
  | [] => true
  | (t, d) :: r => f t d && allH f r
theorem allH_look {f : Nat → Ob → Bool} {t : Nat} {d : Ob} : ∀ {l : Heap}, allH f l = true → look l t = some d → f t d = true
  | [], _, h => by simp [look] at h
  | (k, x) :: r, h1, h => by
    simp only [allH, Bool.and_eq_true] at h1
    rw [look_cons] at h
    split at h
    · rename_i e; subst e; simp only [Option.some.injEq] at h; subst h; exact h1.1
    · exact allH_look h1.2 h

/-- The operation i meets no other one that is not ordered with it. -/
def ordB (pre : List (List Nat)) (i j : Nat) : Bool := Nat.beq i j || memN (getL pre i) j || memN (getL pre j) i
def remL (g : Option Nat) : List Nat := match g with
  | some x => [x]
  | none => []
def okI (ops : Array Oper) (pre : List (List Nat)) (ps : List Pl) (x0 : SH) (i : Nat) (o : Oper) (x : SH) (p : Pl) : Bool :=
  let v := viewOf ops o x
  ((keys v.1 ++ keys p.sets).all fun t => allN ops.size fun j => !wS ps t j || ordB pre i j) &&
  ((keys v.2 ++ (keys p.adds ++ remL p.rem)).all fun t => allN ops.size fun j => !wH ps t j || ordB pre i j) &&
  allS (fun _ d => d.within (hasK v.2)) v.1 && allH (fun _ d => d.within (hasK v.2)) v.2 &&
  (match o.dst with
    | some t => hasK p.sets t
    | none => true) &&
  ((keys p.adds).all fun nm => hasK v.2 nm || (!hasK x0.2 nm && allN ops.size fun j => Nat.beq i j || memN (getL pre j) i || !hasK (pl ps j).adds nm)) &&
  (match p.rem with
    | none => true
    | some g => hasK v.2 g && allS (fun t d => hasK p.sets t || d.within (butG p.rem)) x0.1 && allH (fun t d => Nat.beq t g || d.within (butG p.rem)) x0.2 &&
      allN ops.size fun j => Nat.beq i j || memN (getL pre j) i || (allS (fun t d => hasK p.sets t || d.within (butG p.rem)) (pl ps j).sets && allH (fun t d => Nat.beq t g || d.within (butG p.rem)) (pl ps j).adds))

mutual
theorem D.within_all : ∀ (d : D), d.within (butG none) = true
  | .own 0 _ _ _ => rfl
  | .own (_ + 1) _ _ _ => rfl
  | .osl 0 _ => rfl
  | .osl (_ + 1) _ => rfl
  | .agg cs => by simp only [D.within]; exact D.withins_all cs
  | .tup cs => by simp only [D.within]; exact D.withins_all cs
  | .fn _ a b => by simp only [D.within, Bool.and_eq_true]; exact ⟨D.withins_all a, D.withins_all b⟩
  | .dead => rfl
  | .i _ => rfl
  | .xsl _ _ _ => rfl
  | .bt => rfl
  | .bf => rfl
theorem D.withins_all : ∀ (d : List D), D.withins (butG none) d = true
  | [] => rfl
  | d :: r => by simp only [D.withins, Bool.and_eq_true]; exact ⟨D.within_all d, D.withins_all r⟩
end
theorem Ob.within_all (o : Ob) : o.within (butG none) = true := by
  cases o with
  | box cs => exact D.withins_all cs
  | arr => rfl
  | mp => rfl

section
variable {ps : List Pl}
theorem fold_srcS {t : Nat} {d : D} : ∀ {l : List Nat} {x : SH}, look (fold ps l x).1 t = some d → look x.1 t = some d ∨ ∃ k ∈ l, look (pl ps k).sets t = some d
  | [], x, h => .inl h
  | i :: l, x, h => by
    have h' : look (fold ps l ((pl ps i).ap x)).1 t = some d := h
    rcases fold_srcS h' with h1 | ⟨k, hk, h1⟩
    · rw [ap_S] at h1
      cases h2 : look (pl ps i).sets t with
      | some d' => rw [h2] at h1; exact .inr ⟨i, by simp, by rw [h2]; exact h1⟩
      | none => rw [h2] at h1; exact .inl h1
    · exact .inr ⟨k, by simp [hk], h1⟩
theorem fold_srcH {t : Nat} {d : Ob} : ∀ {l : List Nat} {x : SH}, look (fold ps l x).2 t = some d → look x.2 t = some d ∨ ∃ k ∈ l, look (pl ps k).adds t = some d
  | [], x, h => .inl h
  | i :: l, x, h => by
    have h' : look (fold ps l ((pl ps i).ap x)).2 t = some d := h
    rcases fold_srcH h' with h1 | ⟨k, hk, h1⟩
    · rw [ap_H] at h1
      cases h2 : look (pl ps i).adds t with
      | some d' => rw [h2] at h1; exact .inr ⟨i, by simp, by rw [h2]; exact h1⟩
      | none =>
        rw [h2] at h1
        simp only at h1
        split at h1
        · cases h1
        · exact .inl h1
    · exact .inr ⟨k, by simp [hk], h1⟩

theorem fits {ops : Array Oper} {pre : List (List Nat)} {x0 x : SH} {i : Nat} {o : Oper} (hpre : preOk ops pre = true) (ho : ops[i]? = some o) (hok : okI ops pre ps x0 i o x (pl ps i) = true)
    (hx : x = fold ps (ord ops.size fun k => Nat.ble (k + 1) i) x0) {L : Nat → Bool} (hc : Closed ops L) (hL : L i = false) (hb : ∀ j ∈ befores o, L j = true) :
    Fits (fold ps (ord ops.size L) x0) (viewOf ops o x) o (pl ps i) ∧
      (∀ t, look (fold ps (ord ops.size fun k => L k || Nat.beq k i) x0).1 t = look ((pl ps i).ap (fold ps (ord ops.size L) x0)).1 t) ∧
      ∀ t, look (fold ps (ord ops.size fun k => L k || Nat.beq k i) x0).2 t = look ((pl ps i).ap (fold ps (ord ops.size L) x0)).2 t := by
  simp only [okI, Bool.and_eq_true] at hok
  obtain ⟨⟨⟨⟨⟨⟨c1, c2⟩, c3⟩, c4⟩, c5⟩, c6⟩, c7⟩ := hok
  have hlt : i < ops.size := (Array.getElem?_eq_some_iff.1 ho).1
  have hdown := pre_down hpre hc (i + 1) i o (by omega) ho hb
  have hord : ∀ k, k < ops.size → ordB pre i k = true → k ≠ i → (L k = true ∧ k < i) ∨ (L k = false ∧ i < k) := by
    intro k hk h hne
    simp only [ordB, Bool.or_eq_true] at h
    rcases h with (h | h) | h
    · exact absurd (Nat.eq_of_beq_eq_true h).symm hne
    · exact .inl (hdown k (memN_iff.1 h))
    · obtain ⟨ok, hok⟩ : ∃ ok, ops[k]? = some ok := ⟨ops[k]'hk, by rw [Array.getElem?_eq_getElem]⟩
      refine .inr ?_
      have key : L k = true → L i = true := fun hk1 => (pre_down hpre hc (k + 1) k ok (by omega) hok (hc k ok hok hk1) i (memN_iff.1 h)).1
      have hik : i < k := (pre_down hpre (L := fun _ => true) (fun _ _ _ _ _ _ => rfl) (k + 1) k ok (by omega) hok (fun _ _ => rfl) i (memN_iff.1 h)).2
      refine ⟨?_, hik⟩
      cases hLk : L k with
      | false => rfl
      | true => rw [key hLk] at hL; cases hL
  have hsame : ∀ k, k < ops.size → ordB pre i k = true → L k = Nat.ble (k + 1) i := by
    intro k hk h
    by_cases hne : k = i
    · subst hne
      rw [hL]
      cases hb : Nat.ble (k + 1) k with
      | false => rfl
      | true => have := Nat.le_of_ble_eq_true hb; omega
    · rcases hord k hk h hne with ⟨h1, h2⟩ | ⟨h1, h2⟩
      · rw [h1, Nat.ble_eq_true_of_le (by omega)]
      · rw [h1]
        cases hb : Nat.ble (k + 1) i with
        | false => rfl
        | true => have := Nat.le_of_ble_eq_true hb; omega
  have hW1 : ∀ t, t ∈ keys (viewOf ops o x).1 ++ keys (pl ps i).sets → ∀ k, k < ops.size → wS ps t k = true → ordB pre i k = true := by
    intro t ht k hk hw
    have := allN_iff (List.all_eq_true.1 c1 t ht) k hk
    rw [hw] at this
    simpa using this
  have hW2 : ∀ t, t ∈ keys (viewOf ops o x).2 ++ (keys (pl ps i).adds ++ remL (pl ps i).rem) → ∀ k, k < ops.size → wH ps t k = true → ordB pre i k = true := by
    intro t ht k hk hw
    have := allN_iff (List.all_eq_true.1 c2 t ht) k hk
    rw [hw] at this
    simpa using this
  have hasEq : has (viewOf ops o x).2 = hasK (viewOf ops o x).2 := by
    funext n; unfold has hasK; cases look (viewOf ops o x).2 n <;> rfl
  have hL' : ∀ k, k ∈ ord ops.size L → k ≠ i ∧ k < ops.size ∧ L k = true ∧ memN (getL pre k) i = false := by
    intro k hk
    rw [mem_ord] at hk
    have hne : k ≠ i := fun e => by rw [e, hL] at hk; cases hk.2
    refine ⟨hne, hk.1, hk.2, ?_⟩
    cases hm : memN (getL pre k) i with
    | false => rfl
    | true =>
      obtain ⟨ok, hok⟩ : ∃ ok, ops[k]? = some ok := ⟨ops[k]'hk.1, by rw [Array.getElem?_eq_getElem]⟩
      have := (pre_down hpre hc (k + 1) k ok (by omega) hok (hc k ok hok hk.2) i (memN_iff.1 hm)).1
      rw [hL] at this; cases this
  refine ⟨⟨?_, ?_, ?_, ?_, ?_, ?_, ?_, ?_, ?_⟩, ?_, ?_⟩
  · intro t d h
    have h1 : look x.1 t = some d := restr_look h
    rw [hx] at h1
    rw [fold_same (fun x => look x.1 t) (wS ps t) (fun i x h => ap_S_not h x) (fun i x y h => ap_S_w h x y) (m' := fun k => Nat.ble (k + 1) i)]
    · exact h1
    · intro k hk hw
      exact hsame k hk (hW1 t (List.mem_append.2 (.inl (mem_keys h))) k hk hw)
  · intro t d h
    have h1 : look x.2 t = some d := restr_look h
    rw [hx] at h1
    rw [fold_same (fun x => look x.2 t) (wH ps t) (fun i x h => ap_H_not h x) (fun i x y h => ap_H_w h x y) (m' := fun k => Nat.ble (k + 1) i)]
    · exact h1
    · intro k hk hw
      exact hsame k hk (hW2 t (List.mem_append.2 (.inl (mem_keys h))) k hk hw)
  · intro t d h
    rw [hasEq]; exact allS_look c3 h
  · intro t d h
    rw [hasEq]; exact allH_look c4 h
  · intro t h
    rw [h] at c5; exact c5
  · intro nm h1 h2
    obtain ⟨ob, h1'⟩ := hasK_iff.1 h1
    have h3 := List.all_eq_true.1 c6 nm (mem_keys h1')
    simp only [Bool.or_eq_true, Bool.and_eq_true, Bool.not_eq_true'] at h3
    rcases h3 with h3 | ⟨h3, h4⟩
    · rw [hasEq]; exact h3
    · obtain ⟨ob2, h2'⟩ := has_iff.1 h2
      rcases fold_srcH h2' with h5 | ⟨k, hk, h5⟩
      · rw [hasK_iff.2 ⟨_, h5⟩] at h3; cases h3
      · obtain ⟨hne, hk1, _, hm⟩ := hL' k hk
        have := allN_iff h4 k hk1
        simp only [Bool.or_eq_true] at this
        rcases this with (h6 | h6) | h6
        · exact absurd (Nat.eq_of_beq_eq_true h6).symm hne
        · rw [hm] at h6; cases h6
        · rw [hasK_iff.2 ⟨_, h5⟩] at h6; cases h6
  · intro t d h h1
    cases hr : (pl ps i).rem with
    | none => exact D.within_all d
    | some g =>
      rw [hr] at c7
      simp only [Bool.and_eq_true] at c7
      obtain ⟨⟨⟨d1, d2⟩, d3⟩, d4⟩ := c7
      rcases fold_srcS h with h5 | ⟨k, hk, h5⟩
      · have := allS_look d2 h5
        rw [h1] at this
        simpa using this
      · obtain ⟨hne, hk1, _, hm⟩ := hL' k hk
        have := allN_iff d4 k hk1
        have hne' : Nat.beq i k = false := by
          cases hb : Nat.beq i k with
          | false => rfl
          | true => exact absurd (Nat.eq_of_beq_eq_true hb).symm hne
        rw [hm, hne'] at this
        simp only [Bool.false_or, Bool.and_eq_true] at this
        have := allS_look this.1 h5
        rw [h1] at this
        simpa using this
  · intro nm ob h h1
    cases hr : (pl ps i).rem with
    | none => exact Ob.within_all ob
    | some g =>
      rw [hr] at c7
      simp only [Bool.and_eq_true] at c7
      obtain ⟨⟨⟨d1, d2⟩, d3⟩, d4⟩ := c7
      have hne0 : Nat.beq nm g = false := by
        cases hb : Nat.beq nm g with
        | false => rfl
        | true =>
          have := Nat.eq_of_beq_eq_true hb
          subst this
          rw [hasK_not.2 h1] at d1; cases d1
      rcases fold_srcH h with h5 | ⟨k, hk, h5⟩
      · have := allH_look d3 h5
        rw [hne0] at this
        simpa using this
      · obtain ⟨hne, hk1, _, hm⟩ := hL' k hk
        have := allN_iff d4 k hk1
        have hne' : Nat.beq i k = false := by
          cases hb : Nat.beq i k with
          | false => rfl
          | true => exact absurd (Nat.eq_of_beq_eq_true hb).symm hne
        rw [hm, hne'] at this
        simp only [Bool.false_or, Bool.and_eq_true] at this
        have := allH_look this.2 h5
        rw [hne0] at this
        simpa using this
  · intro g hr
    rw [hr] at c7
    simp only [Bool.and_eq_true] at c7
    rw [hasEq]; exact c7.1.1.1
  · intro t
    cases hw : wS ps t i with
    | true =>
      obtain ⟨d, hd⟩ := hasK_iff.1 hw
      refine fold_last (fun x => look x.1 t) (wS ps t) (fun i x h => ap_S_not h x) (fun i x y h => ap_S_w h x y) (ord_sorted _ _) (mem_ord.2 ⟨hlt, by simp⟩) hw ?_ _ _
      intro k hk hwk
      rw [mem_ord] at hk
      by_cases hne : k = i
      · omega
      · have hk2 : L k = true := by
          have := hk.2
          simp only [Bool.or_eq_true] at this
          rcases this with h' | h'
          · exact h'
          · exact absurd (Nat.eq_of_beq_eq_true h') hne
        rcases hord k hk.1 (hW1 t (List.mem_append.2 (.inr (mem_keys hd))) k hk.1 hwk) hne with ⟨_, h2⟩ | ⟨h1, _⟩
        · omega
        · rw [h1] at hk2; cases hk2
    | false =>
      rw [ap_S_not hw]
      refine fold_same (fun x => look x.1 t) (wS ps t) (fun i x h => ap_S_not h x) (fun i x y h => ap_S_w h x y) ?_ _
      intro k hk hwk
      have hne : Nat.beq k i = false := by
        cases hb : Nat.beq k i with
        | false => rfl
        | true =>
          have := Nat.eq_of_beq_eq_true hb
          subst this
          rw [hw] at hwk; cases hwk
      simp [hne]
  · intro t
    cases hw : wH ps t i with
    | true =>
      refine fold_last (fun x => look x.2 t) (wH ps t) (fun i x h => ap_H_not h x) (fun i x y h => ap_H_w h x y) (ord_sorted _ _) (mem_ord.2 ⟨hlt, by simp⟩) hw ?_ _ _
      have hmem : t ∈ keys (viewOf ops o x).2 ++ (keys (pl ps i).adds ++ remL (pl ps i).rem) := by
        refine List.mem_append.2 (.inr (List.mem_append.2 ?_))
        simp only [wH, Bool.or_eq_true] at hw
        rcases hw with h1 | h1
        · obtain ⟨d, hd⟩ := hasK_iff.1 h1
          exact .inl (mem_keys hd)
        · rw [isG_iff.1 h1]; exact .inr (by simp [remL])
      intro k hk hwk
      rw [mem_ord] at hk
      by_cases hne : k = i
      · omega
      · have hk2 : L k = true := by
          have := hk.2
          simp only [Bool.or_eq_true] at this
          rcases this with h' | h'
          · exact h'
          · exact absurd (Nat.eq_of_beq_eq_true h') hne
        rcases hord k hk.1 (hW2 t hmem k hk.1 hwk) hne with ⟨_, h2⟩ | ⟨h1, _⟩
        · omega
        · rw [h1] at hk2; cases hk2
    | false =>
      rw [ap_H_not hw]
      refine fold_same (fun x => look x.2 t) (wH ps t) (fun i x h => ap_H_not h x) (fun i x y h => ap_H_w h x y) ?_ _
      intro k hk hwk
      have hne : Nat.beq k i = false := by
        cases hb : Nat.beq k i with
        | false => rfl
        | true =>
          have := Nat.eq_of_beq_eq_true hb
          subst this
          rw [hw] at hwk; cases hwk
      simp [hne]
end
end Go.AI

/- A region whose order is drawn: the rule, and the machine in it. -/
namespace Go.AI

def okGo (ops : Array Oper) (pre : List (List Nat)) (ps : List Pl) (x0 : SH) : List Oper → List Pl → Nat → SH → Bool
  | [], [], _, _ => true
  | o :: r, p :: qs, i, x => okI ops pre ps x0 i o x p && okGo ops pre ps x0 r qs (i + 1) (p.ap x)
  | _ :: _, [], _, _ => true
  | [], _ :: _, _, _ => false
/-- A tail: operations each of which comes behind all earlier ones. -/
def tailB (ops : Array Oper) (pre : List (List Nat)) (m : Nat) : Bool := allN ops.size fun j => Nat.ble (j + 1) m || allN j fun k => memN (getL pre j) k
def okT (ops : Array Oper) (ps : List Pl) (x0 : SH) : Bool :=
  let pre := presGo ops.toList []
  preOk ops pre && okGo ops pre ps x0 ops.toList ps 0 x0 && tailB ops pre ps.length
def okD (ops : Array Oper) (ps : List Pl) (x0 : SH) : Bool :=
  let pre := presGo ops.toList []
  preOk ops pre && okGo ops pre ps x0 ops.toList ps 0 x0 && Nat.beq ps.length ops.size
def ChainS (c : Cx) (ops : Array Oper) (O : List Heap) (n : Nat) : List Oper → List Pl → SH → Prop
  | [], [], _ => True
  | o :: r, p :: qs, x => StepOK c ops O n o (viewOf ops o x) p ∧ ChainS c ops O n r qs (p.ap x)
  | _ :: _, [], _ => True
  | [], _ :: _, _ => False
theorem okT_of_okD {ops : Array Oper} {ps : List Pl} {x0 : SH} (h : okD ops ps x0 = true) : okT ops ps x0 = true ∧ ps.length = ops.size := by
  simp only [okD, Bool.and_eq_true] at h
  have hl := Nat.eq_of_beq_eq_true h.2
  refine ⟨?_, hl⟩
  simp only [okT, Bool.and_eq_true]
  refine ⟨h.1, ?_⟩
  unfold tailB
  have : ∀ m, m ≤ ops.size → allN m (fun j => Nat.ble (j + 1) ps.length || allN j fun k => memN (getL (presGo ops.toList []) j) k) = true := by
    intro m
    induction m with
    | zero => intro _; rfl
    | succ m ih =>
      intro hm
      simp only [allN, Bool.and_eq_true, Bool.or_eq_true]
      exact ⟨.inl (Nat.ble_eq_true_of_le (by omega)), ih (by omega)⟩
  exact this _ (Nat.le_refl _)
def foldP (qs : List Pl) (x : SH) : SH := qs.foldl (fun x p => p.ap x) x

theorem okGo_get {ops : Array Oper} {pre : List (List Nat)} {ps : List Pl} {x0 : SH} : ∀ {l : List Oper} {qs : List Pl} {i : Nat} {x : SH}, okGo ops pre ps x0 l qs i x = true →
    qs.length ≤ l.length ∧ ∀ k o p, l[k]? = some o → qs[k]? = some p → okI ops pre ps x0 (i + k) o (foldP (qs.take k) x) p = true
  | [], [], i, x, _ => ⟨Nat.le_refl _, by simp⟩
  | o :: r, p :: qs, i, x, h => by
    simp only [okGo, Bool.and_eq_true] at h
    obtain ⟨h1, h2⟩ := okGo_get h.2
    refine ⟨by simp only [List.length_cons]; omega, fun k o' p' hk hp => ?_⟩
    cases k with
    | zero =>
      simp only [List.getElem?_cons_zero, Option.some.injEq] at hk hp
      subst hk hp
      exact h.1
    | succ k =>
      have hh := h2 k o' p' (by simpa using hk) (by simpa using hp)
      rw [show i + (k + 1) = i + 1 + k by omega]
      exact hh
  | [], _ :: _, _, _, h => by simp [okGo] at h
  | _ :: _, [], _, _, h => ⟨Nat.zero_le _, by simp⟩
theorem chain_get {c : Cx} {ops : Array Oper} {O : List Heap} {n : Nat} : ∀ {l : List Oper} {qs : List Pl} {x : SH}, ChainS c ops O n l qs x →
    ∀ k o p, l[k]? = some o → qs[k]? = some p → StepOK c ops O n o (viewOf ops o (foldP (qs.take k) x)) p
  | [], [], x, _ => by simp
  | o :: r, p :: qs, x, h => by
    intro k o' p' hk hp
    cases k with
    | zero =>
      simp only [List.getElem?_cons_zero, Option.some.injEq] at hk hp
      subst hk hp
      exact h.1
    | succ k => exact chain_get h.2 k o' p' (by simpa using hk) (by simpa using hp)
  | [], _ :: _, _, h => h.elim
  | _ :: _, [], _, h => by simp
theorem fold_range {ps : List Pl} {x : SH} : ∀ k, k ≤ ps.length → fold ps (List.range k) x = foldP (ps.take k) x
  | 0, _ => by simp [fold, foldP]
  | k + 1, h => by
    rw [List.range_succ, fold_append, fold_range k (by omega), List.take_add_one]
    have : ps[k]? = some (ps[k]'(by omega)) := List.getElem?_eq_getElem _
    rw [this]
    simp only [foldP, List.foldl_append, Option.toList, List.foldl_cons, List.foldl_nil]
    simp only [fold, List.foldl_cons, List.foldl_nil, pl, this]
theorem ord_congr {n : Nat} {m m' : Nat → Bool} (h : ∀ k, k < n → m k = m' k) : ord n m = ord n m' := by
  unfold ord
  refine List.filter_congr fun k hk => h k (List.mem_range.1 hk)

theorem mem_befores {o : Oper} {j : Nat} : j ∈ befores o ↔ ∃ e ∈ o.after, Region.binds .any e = true ∧ e.on = j := by
  simp only [befores, List.mem_map, List.mem_filter, Array.mem_toList_iff]
  constructor
  · rintro ⟨e, ⟨h1, h2⟩, h3⟩; exact ⟨e, h1, h2, h3⟩
  · rintro ⟨e, h1, h2, h3⟩; exact ⟨e, ⟨h1, h2⟩, h3⟩

theorem inv_draw {E : Env} {K : Kn} {ρ : Nat → Nat → Loc} {s : St} {a : Act} {w : World} (h : Inv E K ρ s a w) (d : Nat) : Inv E K ρ s a { w with drawn := d } := by
  obtain ⟨⟨h1, h2, h3, h4, h5, h6, h7, h8, h9, h10⟩, h11, h12, h13⟩ := h
  refine ⟨⟨h1, fun dep nm ob e => ?_, h3, h4, h5, h6, h7, h8, h9, h10⟩, h11, h12, h13⟩
  have := h2 dep nm ob e
  cases ob with
  | box cs => exact this
  | arr => exact this
  | mp => exact this

theorem rch_tail {c : Cx} (hm : c.P.follows .mixedOrders = true) {id : Nat} {ops : Array Oper} {O : List Heap} {n : Nat} {x0 : SH} {ps : List Pl} {k : List Item} (hok : okT ops ps x0 = true) (hch : ChainS c ops O n ops.toList ps x0)
    (hend : RG c ops (List.range' ps.length (ops.size - ps.length)) (St.of O n (foldP ps x0)) (Rch c k)) : Rch c (.code (.region id ops true) :: k) (St.of O n x0) := by
  simp only [okT, Bool.and_eq_true] at hok
  obtain ⟨⟨hpre, hgo⟩, htl⟩ := hok
  obtain ⟨hlen, hget⟩ := okGo_get hgo
  have hlen' : ps.length ≤ ops.size := by simpa using hlen
  intro K ρ a w b cs hi hb hk
  let Q : Exit → Act → World → Prop := fun e a' w' => e = .normal ∧ ∃ s' K ρ, Inv c.E K ρ s' a' w' ∧ Rch c k s'
  have hgetD : ∀ (listed : Array Bool) (i : Nat), listed.size = ops.size → i < ops.size → ∀ k, (listed.setIfInBounds i true).getD k false = (listed.getD k false || Nat.beq k i) := by
    intro listed i hsz hlt k
    by_cases hki : k = i
    · subst hki
      simp [hsz, hlt]
    · have : Nat.beq k i = false := by
        cases hb : Nat.beq k i with
        | false => rfl
        | true => exact absurd (Nat.eq_of_beq_eq_true hb) hki
      rw [this, Bool.or_false, getD_set_ne false (Ne.symm hki)]
  have hcntlt : ∀ (listed : Array Bool) (i : Nat), listed.size = ops.size → i < ops.size → listed.getD i false = false → (List.range ops.size).countP (fun k => !(listed.setIfInBounds i true).getD k false) < (List.range ops.size).countP (fun k => !listed.getD k false) := by
    intro listed i hsz hlt hLi
    have e1 : (fun k => !(listed.setIfInBounds i true).getD k false) = fun k => !listed.getD k false && !Nat.beq k i := by
      funext k; rw [hgetD listed i hsz hlt]; simp
    rw [e1]
    obtain ⟨l1, l2, hl⟩ := List.append_of_mem (List.mem_range.2 hlt)
    rw [hl]
    simp only [List.countP_append, List.countP_cons]
    have m1 : l1.countP (fun k => !listed.getD k false && !Nat.beq k i) ≤ l1.countP (fun k => !listed.getD k false) := List.countP_mono_left fun x _ hx => by simp only [Bool.and_eq_true] at hx; exact hx.1
    have m2 : l2.countP (fun k => !listed.getD k false && !Nat.beq k i) ≤ l2.countP (fun k => !listed.getD k false) := List.countP_mono_left fun x _ hx => by simp only [Bool.and_eq_true] at hx; exact hx.1
    have e2 : (!listed.getD i false) = true := by rw [hLi]; rfl
    have e3 : Nat.beq i i = true := Nat.beq_refl i
    rw [if_pos e2, if_neg (by rw [e3]; simp)]
    omega
  have hready : ∀ (listed : Array Bool), listed.size = ops.size → ∀ i, i < ops.size → listed.getD i false = false → (∀ o, ops[i]? = some o → ∀ j ∈ befores o, listed.getD j false = true) → i ∈ Region.ready .any ops listed := by
    intro listed hsz i hlt hLi hbe
    rw [mem_ready]
    obtain ⟨o, ho⟩ : ∃ o, ops[i]? = some o := ⟨ops[i], by rw [Array.getElem?_eq_getElem]⟩
    refine ⟨?_, o, ho, fun e he hb1 => hbe o ho e.on (mem_befores.2 ⟨e, he, hb1, rfl⟩)⟩
    simp only [Array.getD_eq_getD_getElem?] at hLi ⊢
    rw [Array.getElem?_eq_getElem (by omega)] at hLi ⊢
    simpa using hLi
  have hfromReady : ∀ (listed : Array Bool), listed.size = ops.size → ∀ i ∈ Region.ready .any ops listed, ∃ o, ops[i]? = some o ∧ i < ops.size ∧ listed.getD i false = false ∧ ∀ j ∈ befores o, listed.getD j false = true := by
    intro listed hsz i hi
    obtain ⟨h1, o, ho, hbe⟩ := mem_ready.1 hi
    have hlt : i < ops.size := (Array.getElem?_eq_some_iff.1 ho).1
    refine ⟨o, ho, hlt, ?_, fun j hj => ?_⟩
    · simp only [Array.getD_eq_getD_getElem?] at h1 ⊢
      rw [Array.getElem?_eq_getElem (by omega)] at h1 ⊢
      simpa using h1
    · obtain ⟨e, he, hb1, rfl⟩ := mem_befores.1 hj
      exact hbe e he hb1
  have hclose : ∀ (listed : Array Bool) (i : Nat) (o : Oper), listed.size = ops.size → ops[i]? = some o → i < ops.size → (∀ j ∈ befores o, listed.getD j false = true) → Closed ops (fun k => listed.getD k false) → Closed ops (fun k => (listed.setIfInBounds i true).getD k false) := by
    intro listed i o hsz ho hlt hbef hc k ok hok2 hk2 j hj
    have hk2 : (listed.setIfInBounds i true).getD k false = true := hk2
    show (listed.setIfInBounds i true).getD j false = true
    rw [hgetD listed i hsz hlt] at hk2 ⊢
    simp only [Bool.or_eq_true] at hk2
    rcases hk2 with hk2 | hk2
    · have hcj : listed.getD j false = true := hc k ok hok2 hk2 j hj
      rw [hcj]; rfl
    · have := Nat.eq_of_beq_eq_true hk2
      subst this
      rw [ho] at hok2
      simp only [Option.some.injEq] at hok2
      subst hok2
      rw [hbef j hj]; rfl
  have htail : ∀ (listed : Array Bool) (i : Nat) (o : Oper), ops[i]? = some o → ps.length ≤ i → Closed ops (fun k => listed.getD k false) → (∀ j ∈ befores o, listed.getD j false = true) → ∀ j, j < i → listed.getD j false = true := by
    intro listed i o ho hge hc hbef j hj
    have hlt : i < ops.size := (Array.getElem?_eq_some_iff.1 ho).1
    have h1 := allN_iff htl i hlt
    simp only [Bool.or_eq_true] at h1
    rcases h1 with h1 | h1
    · have := Nat.le_of_ble_eq_true h1; omega
    · exact (pre_down hpre hc (i + 1) i o (by omega) ho hbef j (memN_iff.1 (allN_iff h1 j hj))).1
  -- the tail
  have tail : ∀ (fuel m : Nat) (listed : Array Bool) (a : Act) (w : World), listed.size = ops.size → ps.length ≤ m → m ≤ ops.size → ops.size - m ≤ fuel → (∀ j, j < ops.size → listed.getD j false = Nat.ble (j + 1) m) → Closed ops (fun k => listed.getD k false) →
      wpOps c.P ops Q (List.range' m (ops.size - m)) a w → wpAny c.P .any ops Q fuel listed a w := by
    intro fuel
    induction fuel with
    | zero =>
      intro m listed a w hsz hm1 hm2 hf hl hc hw
      have : ops.size - m = 0 := by omega
      rw [this] at hw
      refine ⟨?_, hw⟩
      cases hr : Region.ready .any ops listed with
      | nil => rfl
      | cons i r =>
        obtain ⟨o, ho, hlt, hLi, _⟩ := hfromReady listed hsz i (by rw [hr]; simp)
        rw [hl i hlt, Nat.ble_eq_true_of_le (by omega)] at hLi
        cases hLi
    | succ fuel ih =>
      intro m listed a w hsz hm1 hm2 hf hl hc hw
      refine ⟨fun hr => ?_, fun i hi => ?_⟩
      · by_cases hms : m = ops.size
        · have : ops.size - m = 0 := by omega
          rw [this] at hw
          exact hw
        · exfalso
          have hmlt : m < ops.size := by omega
          have : m ∈ Region.ready .any ops listed := by
            refine hready listed hsz m hmlt ?_ fun o ho j hj => ?_
            · rw [hl m hmlt]
              cases hb : Nat.ble (m + 1) m with
              | false => rfl
              | true => have := Nat.le_of_ble_eq_true hb; omega
            · have hjm := (pre_lt hpre m o ho).1 j hj
              rw [hl j (by omega)]
              exact Nat.ble_eq_true_of_le hjm
          rw [hr] at this; cases this
      · obtain ⟨o, ho, hlt, hLi, hbef⟩ := hfromReady listed hsz i hi
        have him : m ≤ i := by
          rw [hl i hlt] at hLi
          apply Nat.le_of_not_lt
          intro h
          rw [Nat.ble_eq_true_of_le h] at hLi; cases hLi
        have : i = m := by
          apply Classical.byContradiction
          intro hne
          have := htail listed i o ho (by omega) hc hbef m (by omega)
          rw [hl m (by omega)] at this
          have := Nat.le_of_ble_eq_true this
          omega
        subst this
        rw [show ops.size - i = (ops.size - (i + 1)) + 1 by omega, List.range'_succ, wpOps_cons] at hw
        refine wpOp_mono (fun a w h => ?_) hw
        refine ih (i + 1) _ a w (by simpa using hsz) (by omega) (by omega) (by omega) (fun j hj => ?_) (hclose listed i o hsz ho hlt hbef hc) h
        rw [hgetD listed i hsz hlt, hl j hj]
        by_cases hji : j = i
        · subst hji
          rw [Nat.beq_refl, Bool.or_true]
          exact (Nat.ble_eq_true_of_le (Nat.le_refl _)).symm
        · have hbn : Nat.beq j i = false := by
            cases hb : Nat.beq j i with
            | false => rfl
            | true => exact absurd (Nat.eq_of_beq_eq_true hb) hji
          rw [hbn, Bool.or_false]
          by_cases hji2 : j + 1 ≤ i
          · rw [Nat.ble_eq_true_of_le hji2, Nat.ble_eq_true_of_le (by omega)]
          · have e1 : Nat.ble (j + 1) i = false := by
              cases hb : Nat.ble (j + 1) i with
              | false => rfl
              | true => exact absurd (Nat.le_of_ble_eq_true hb) hji2
            have e2 : Nat.ble (j + 1) (i + 1) = false := by
              cases hb : Nat.ble (j + 1) (i + 1) with
              | false => rfl
              | true => have := Nat.le_of_ble_eq_true hb; omega
            rw [e1, e2]
  have hclosedlt : ∀ (listed : Array Bool), Closed ops (fun k => listed.getD k false) → (∃ j, j < ps.length ∧ listed.getD j false = false) → ∀ i, i < ops.size → ps.length ≤ i → listed.getD i false = false := by
    intro listed hc ⟨j, hj, hjf⟩ i hi hge
    cases hLi : listed.getD i false with
    | false => rfl
    | true =>
      obtain ⟨o, ho⟩ : ∃ o, ops[i]? = some o := ⟨ops[i], by rw [Array.getElem?_eq_getElem]⟩
      have := htail listed i o ho hge hc (fun k hk => hc i o ho hLi k hk) j (by omega)
      rw [hjf] at this; cases this
  have key : ∀ (fuel : Nat) (listed : Array Bool) (a : Act) (w : World), listed.size = ops.size → (List.range ops.size).countP (fun k => !listed.getD k false) ≤ fuel → Closed ops (fun k => listed.getD k false) →
      (∀ i, i < ops.size → ps.length ≤ i → listed.getD i false = false) → (∃ K ρ, Inv c.E K ρ (St.of O n (fold ps (ord ops.size fun k => listed.getD k false) x0)) a w) → wpAny c.P .any ops Q fuel listed a w := by
    intro fuel
    induction fuel with
    | zero =>
      intro listed a w hsz hcnt hc hno hinv
      have hl : ∀ i, i < ops.size → listed.getD i false = true := by
        have h0 := List.countP_eq_zero.1 (Nat.le_zero.1 hcnt)
        intro i hi
        have := h0 i (List.mem_range.2 hi)
        simpa using this
      have hps : ps.length = ops.size := by
        apply Classical.byContradiction
        intro hne
        have h1 := hno ps.length (by omega) (Nat.le_refl _)
        rw [hl _ (by omega)] at h1; cases h1
      refine tail 0 ops.size listed a w hsz (by omega) (Nat.le_refl _) (by omega) (fun j hj => ?_) hc ?_
      · rw [hl j hj, Nat.ble_eq_true_of_le (by omega)]
      · rw [Nat.sub_self]
        obtain ⟨K, ρ, hinv⟩ := hinv
        have e : ord ops.size (fun k => listed.getD k false) = List.range ps.length := by
          rw [hps]
          unfold ord
          rw [List.filter_eq_self]
          intro k hk
          exact hl k (List.mem_range.1 hk)
        rw [e, fold_range _ (Nat.le_refl _), List.take_of_length_le (Nat.le_refl _)] at hinv
        have := hend K ρ a w hinv
        rw [hps, Nat.sub_self] at this
        exact this
    | succ fuel ih =>
      intro listed a w hsz hcnt hc hno hinv
      by_cases hall : ∀ j, j < ps.length → listed.getD j false = true
      · -- the prefix is whole
        have hl : ∀ j, j < ops.size → listed.getD j false = Nat.ble (j + 1) ps.length := by
          intro j hj
          by_cases hjl : j < ps.length
          · rw [hall j hjl, Nat.ble_eq_true_of_le hjl]
          · rw [hno j hj (by omega)]
            cases hb : Nat.ble (j + 1) ps.length with
            | false => rfl
            | true => have := Nat.le_of_ble_eq_true hb; omega
        refine tail (fuel + 1) ps.length listed a w hsz (Nat.le_refl _) hlen' ?_ hl hc ?_
        · refine Nat.le_trans ?_ hcnt
          have e : (List.range ops.size) = List.range ps.length ++ (List.range' ps.length (ops.size - ps.length)) := by
            have h := List.range'_append_1 (s := 0) (m := ps.length) (n := ops.size - ps.length)
            rw [Nat.zero_add, Nat.add_sub_cancel' hlen'] at h
            rw [List.range_eq_range', List.range_eq_range', h]
          rw [e, List.countP_append]
          have : (List.range' ps.length (ops.size - ps.length)).countP (fun k => !listed.getD k false) = (List.range' ps.length (ops.size - ps.length)).length := by
            rw [List.countP_eq_length]
            intro k hk
            rw [List.mem_range'_1] at hk
            rw [hno k (by omega) hk.1]; rfl
          rw [this, List.length_range']
          omega
        · obtain ⟨K, ρ, hinv⟩ := hinv
          have e : ord ops.size (fun k => listed.getD k false) = List.range ps.length := by
            rw [← ord_range (n := ops.size) hlen']
            exact ord_congr fun k hk => hl k hk
          rw [e, fold_range _ (Nat.le_refl _), List.take_of_length_le (Nat.le_refl _)] at hinv
          exact hend K ρ a w hinv
      · have hex : ∃ j, j < ps.length ∧ listed.getD j false = false := by
          apply Classical.byContradiction
          intro hne
          apply hall
          intro j hj
          cases hb : listed.getD j false with
          | true => rfl
          | false => exact absurd ⟨j, hj, hb⟩ hne
        obtain ⟨K, ρ, hinv⟩ := hinv
        refine ⟨fun hr => ?_, fun i hi => ?_⟩
        · -- something of the prefix is ready
          exfalso
          obtain ⟨j, hj, hjf⟩ := hex
          have : ∀ m i, i < m → i < ops.size → listed.getD i false = true := by
            intro m
            induction m with
            | zero => intro i h; omega
            | succ m ih =>
              intro i hi1 hi2
              cases hcc : listed.getD i false with
              | true => rfl
              | false =>
                exfalso
                have : i ∈ Region.ready .any ops listed := hready listed hsz i hi2 hcc fun o ho k hk => by
                  have := (pre_lt hpre i o ho).1 k hk
                  exact ih k (by omega) (by omega)
                rw [hr] at this; cases this
          rw [this (j + 1) j (by omega) (by omega)] at hjf
          cases hjf
        · obtain ⟨o, ho, hlt, hLi, hbef⟩ := hfromReady listed hsz i hi
          have hil : i < ps.length := by
            apply Nat.lt_of_not_le
            intro hge
            obtain ⟨j, hj, hjf⟩ := hex
            rw [htail listed i o ho hge hc hbef j (by omega)] at hjf
            cases hjf
          have hp : ps[i]? = some ps[i] := List.getElem?_eq_getElem hil
          have hok1 := hget i o _ (by simpa using ho) hp
          have hst := chain_get hch i o _ (by simpa using ho) hp
          generalize ps[i] = p at *
          have hpl : pl ps i = p := by simp [pl, hp]
          rw [Nat.zero_add] at hok1
          rw [← fold_range i (by omega), ← ord_range (n := ops.size) (by omega)] at hok1 hst
          rw [← hpl] at hok1 hst
          obtain ⟨hf, hy1, hy2⟩ := fits hpre ho hok1 rfl hc hLi hbef
          refine step_frame ho hst hf hy1 hy2 hinv fun a' w' K' ρ' hinv' => ?_
          refine ih _ _ _ (by simpa using hsz) ?_ (hclose listed i o hsz ho hlt hbef hc) (fun k hk1 hk2 => ?_) ⟨K', ρ', ?_⟩
          · have := hcntlt listed i hsz hlt hLi
            omega
          · rw [hgetD listed i hsz hlt, hno k hk1 hk2, Bool.false_or]
            cases hb : Nat.beq k i with
            | false => rfl
            | true => have := Nat.eq_of_beq_eq_true hb; omega
          · rw [ord_congr fun k _ => hgetD listed i hsz hlt k]
            exact hinv'
  have hrep : ∀ k, (Array.replicate ops.size false).getD k false = false := by
    intro k
    simp only [Array.getD_eq_getD_getElem?, Array.getElem?_replicate]
    split <;> rfl
  have h0 : ord ops.size (fun k => (Array.replicate ops.size false).getD k false) = [] := by
    unfold ord
    rw [List.filter_eq_nil_iff]
    intro k _
    rw [hrep]; simp
  obtain ⟨e, a', w', ⟨rfl, s', K', ρ', hi', hq⟩, harr⟩ := wp_region_any (id := id) hm (key ops.size _ a { w with drawn := w.drawn + 1 } (by simp) (by
    refine Nat.le_trans (List.countP_le_length ..) ?_
    simp) (fun i o _ h => by
      have h : (Array.replicate ops.size false).getD i false = true := h
      rw [hrep] at h
      cases h) (fun i _ _ => hrep i) ⟨K, ρ, by rw [h0]; exact inv_draw hi _⟩) b k cs
  obtain ⟨v, w'', fr, hp, hst, h3⟩ := hq K' ρ' a' w' b cs hi' hb hk
  exact ⟨v, w'', fr, hp, Steps.trans harr hst, h3⟩
theorem rch_drawn {c : Cx} (hm : c.P.follows .mixedOrders = true) {id : Nat} {ops : Array Oper} {O : List Heap} {n : Nat} {x0 : SH} {ps : List Pl} {k : List Item} (hok : okD ops ps x0 = true) (hch : ChainS c ops O n ops.toList ps x0)
    (hend : Rch c k (St.of O n (foldP ps x0))) : Rch c (.code (.region id ops true) :: k) (St.of O n x0) := by
  obtain ⟨h1, h2⟩ := okT_of_okD hok
  refine rch_tail hm h1 hch ?_
  rw [h2, Nat.sub_self]
  exact rg_nil hend
/-- What is to be shown where the machine leaves such a region: at its end, or at its tail. -/
def FD (c : Cx) (ops : Array Oper) (O : List Heap) (n : Nat) (x0 : SH) (k : List Item) (x : SH) (ps : List Pl) : Prop := okT ops ps x0 = true ∧ RG c ops (List.range' ps.length (ops.size - ps.length)) (St.of O n x) (Rch c k)
theorem fd_done {c : Cx} {ops : Array Oper} {O : List Heap} {n : Nat} {x0 : SH} {k : List Item} {x : SH} {ps : List Pl} (hok : okD ops ps x0 = true) (h : Rch c k (St.of O n x)) : FD c ops O n x0 k x ps := by
  obtain ⟨h1, h2⟩ := okT_of_okD hok
  refine ⟨h1, ?_⟩
  rw [h2, Nat.sub_self]
  exact rg_nil h
end Go.AI

/- The machine in a region whose order is drawn. -/
namespace Go.AI

inductive MD where
  | at (o : Oper) (rest : List Oper) (x : SH) (acc : List Pl) (a : Ask)
  | know (b : Bool) (t : Nat) (o : Oper) (rest : List Oper) (x : SH) (acc : List Pl)
  | modS (o : Oper) (rest : List Oper) (x : SH) (acc : List Pl) (s' : St)
  | done (x : SH) (acc : List Pl)
  | bad

def isSrc (i : Nat) : List Oper → Bool
  | [] => false
  | o :: r => match o.guard with
    | some (j, _) => bif Nat.beq j i then true else isSrc i r
    | none => isSrc i r
def Pl.one (t : Nat) (d : D) : Pl := ⟨[(t, d)], [], none⟩
def asBool : D → Option Bool
  | .i (.v (.bool b)) => some b
  | _ => none

def forceAs {α β : Type} : List (Nat × α) → (List (Nat × α) → β) → β
  | [], k => k []
  | (t, d) :: r, k => forceAs r fun r' => k ((t, d) :: r')
theorem forceAs_eq {α β : Type} : ∀ (l : List (Nat × α)) (k : List (Nat × α) → β), forceAs l k = k l
  | [], k => rfl
  | (t, d) :: r, k => by simp only [forceAs, forceAs_eq r]
def forceX {β : Type} (x : SH) (k : SH → β) : β := forceAs x.1 fun a => forceAs x.2 fun b => k (a, b)
theorem forceX_eq {β : Type} (x : SH) (k : SH → β) : forceX x k = k x := by simp only [forceX, forceAs_eq]
section
variable (T : TT) (ops : Array Oper) (O : List Heap) (n : Nat)
abbrev vw (o : Oper) (x : SH) : St := St.of O n (viewOf ops o x)
def finD0 (o : Oper) (rest : List Oper) (x : SH) (acc : List Pl) (a : Ask) (stop : MD) (k : Pl → MD) : MD := match a with
  | .alt _ _ => .bad
  | .val d => match o.dst, goneOf (vw ops O n o x) o with
    | some t, none => bif Nat.ble (t + 1) n then (bif isSrc acc.length ops.toList then (match asBool d with
        | some b => .know b t o rest x acc
        | none => k (.one t d)) else k (.one t d)) else .bad
    | _, _ => .bad
  | .new adds d => match o.dst, goneOf (vw ops O n o x) o with
    | some t, none => bif Nat.ble (t + 1) n && freshB adds (viewOf ops o x).2 then k ⟨[(t, d)], adds, none⟩ else .bad
    | _, _ => .bad
  | .mod s' => bif turns o then .modS o rest x acc s' else .bad
  | .bad => .bad
  | _ => stop
def finD (o : Oper) (rest : List Oper) (x : SH) (acc : List Pl) (a : Ask) (stop : MD) (k : Pl → MD) : MD := match a with
  | .alt y z => finD0 ops O n o rest x acc (bif ownB ops o then y else z) .bad k
  | a => finD0 ops O n o rest x acc a stop k
def runD : List Oper → SH → List Pl → MD
  | [], x, acc => .done x acc
  | o :: rest, x, acc => forceX x fun x => match wantedD ops (vw ops O n o x) o with
    | none => .bad
    | some false => match o.dst with
      | some t => bif Nat.ble (t + 1) n then runD rest ((Pl.one t (.tup [])).ap x) (acc ++ [.one t (.tup [])]) else .bad
      | none => .bad
    | some true => finD ops O n o rest x acc (exec T (vw ops O n o x) o) (.at o rest x acc (exec T (vw ops O n o x) o)) fun p => runD rest (p.ap x) (acc ++ [p])
def contD (o : Oper) (rest : List Oper) (x : SH) (acc : List Pl) (a : Ask) : MD := finD ops O n o rest x acc a (.at o rest x acc a) fun p => runD T ops O n rest (p.ap x) (acc ++ [p])
end

def PQ (O : List Heap) (n : Nat) (v : SH) (p : Pl) (s' : St) : Prop :=
  s'.S = (p.adds ++ rmv p.rem v.2) :: O ∧ s'.n = n ∧
    ∀ t d, look p.sets t = some d → d = .dead ∨ look s'.σ t = some d ∨ (d = .bt ∧ look s'.σ t = some (.i (.v (.bool true)))) ∨ (d = .bf ∧ look s'.σ t = some (.i (.v (.bool false))))

theorem stepOK_of {c : Cx} {ops : Array Oper} {O : List Heap} {n : Nat} {o : Oper} {v : SH} {p : Pl} (hw : wantedD ops (St.of O n v) o = some true) (hg : p.rem = goneOf (St.of O n v) o)
    (h : ∀ E, Stp { c with E := E } o (St.of O n v) (PQ O n v p)) : StepOK c ops O n o v p := by
  refine .inr ⟨hw, fun E K ρ a w hi next Qe hn => h E K ρ a w hi next Qe fun val w' s' K' ρ' hle hk hi' hq => ?_⟩
  obtain ⟨h1, h2, h3⟩ := hq
  have hh := hi'.h
  rw [h1] at hh hk
  refine hn val w' p.sets K' ρ' hle (fun d n x e1 e2 => hk d n x (by rw [← hg]; exact e1) e2) ⟨hh, hi'.defers, by rw [hi'.size, h2], fun t d e => ?_⟩ fun t d e => .inr e
  have hsl := fun d (e : look s'.σ t = some d) => hi'.slots t d e
  rw [h1] at hsl
  rcases h3 t d e with rfl | h4 | ⟨rfl, h4⟩ | ⟨rfl, h4⟩
  · exact .dead _
  · exact hsl _ h4
  · have := inv_v (hsl _ h4)
    rw [this]; exact .bt
  · have := inv_v (hsl _ h4)
    rw [this]; exact .bf

section
variable (c : Cx) (ops : Array Oper) (O : List Heap) (n : Nat) (F : SH → List Pl → Prop)
def GD (rest : List Oper) (x : SH) (acc : List Pl) : Prop := ∃ qs, ChainS c ops O n rest qs x ∧ F (foldP qs x) (acc ++ qs)
def DG (o : Oper) (rest : List Oper) (x : SH) (acc : List Pl) (a : Ask) : Prop :=
  ∃ p, p.rem = goneOf (vw ops O n o x) o ∧ (∀ E, Does { c with E := E } o (vw ops O n o x) (PQ O n (viewOf ops o x) p) a) ∧ GD c ops O n F rest (p.ap x) (acc ++ [p])
def MDx : MD → Prop
  | .at o rest x acc a => DG c ops O n F o rest x acc a
  | .know b t o rest x acc => (b = true → GD c ops O n F rest ((Pl.one t .bt).ap x) (acc ++ [.one t .bt])) ∧ (b = false → GD c ops O n F rest ((Pl.one t .bf).ap x) (acc ++ [.one t .bf]))
  | .modS o rest x acc s' => ∃ p, p.rem = goneOf (vw ops O n o x) o ∧ PQ O n (viewOf ops o x) p s' ∧ GD c ops O n F rest (p.ap x) (acc ++ [p])
  | .done x acc => F x acc
  | .bad => False
end

section
variable {c : Cx} {ops : Array Oper} {O : List Heap} {n : Nat} {F : SH → List Pl → Prop}
theorem gd_cons {o : Oper} {rest : List Oper} {x : SH} {acc : List Pl} {p : Pl} (hs : StepOK c ops O n o (viewOf ops o x) p) (h : GD c ops O n F rest (p.ap x) (acc ++ [p])) : GD c ops O n F (o :: rest) x acc := by
  obtain ⟨qs, h1, h2⟩ := h
  refine ⟨p :: qs, ⟨hs, h1⟩, ?_⟩
  rw [List.append_assoc] at h2
  exact h2
theorem look_one {α : Type} {t t' : Nat} {d d' : α} (h : look [(t, d)] t' = some d') : t = t' ∧ d = d' := by
  rw [look_cons] at h
  split at h
  · rename_i e; exact ⟨e, by simpa using h⟩
  · simp [look] at h
theorem finD0_ok {o : Oper} {rest : List Oper} {x : SH} {acc : List Pl} {a : Ask} {stop : MD} {k : Pl → MD} (hk : ∀ p, MDx c ops O n F (k p) → GD c ops O n F rest (p.ap x) (acc ++ [p])) (hstop : MDx c ops O n F stop → DG c ops O n F o rest x acc a)
    (h : MDx c ops O n F (finD0 ops O n o rest x acc a stop k)) : DG c ops O n F o rest x acc a := by
  unfold finD0 at h
  split at h
  · exact h.elim
  · rename_i d
    split at h
    · rename_i t ht hg
      have hval : Nat.ble (t + 1) n = true → MDx c ops O n F (k (.one t d)) → DG c ops O n F o rest x acc (.val d) := by
        intro hb h
        refine ⟨.one t d, hg.symm, fun E => ?_, hk _ h⟩
        simp only [Does, ht]
        refine ⟨Nat.le_of_ble_eq_true hb, rfl, rfl, fun t' d' e => ?_⟩
        obtain ⟨rfl, rfl⟩ := look_one e
        exact .inr (.inl (by simp [St.set, look_cons]))
      cases hb : Nat.ble (t + 1) n with
      | false => rw [hb] at h; exact h.elim
      | true =>
        rw [hb] at h
        simp only [cond_true] at h
        cases hsrc : isSrc acc.length ops.toList with
        | false => rw [hsrc] at h; exact hval hb h
        | true =>
          rw [hsrc] at h
          simp only [cond_true] at h
          split at h
          · rename_i b hbool
            have hd : d = .i (.v (.bool b)) := by
              unfold asBool at hbool
              split at hbool
              · simpa using hbool
              · cases hbool
            subst hd
            cases b with
            | true =>
              refine ⟨.one t .bt, hg.symm, fun E => ?_, h.1 rfl⟩
              simp only [Does, ht]
              refine ⟨Nat.le_of_ble_eq_true hb, rfl, rfl, fun t' d' e => ?_⟩
              obtain ⟨rfl, rfl⟩ := look_one e
              exact .inr (.inr (.inl ⟨rfl, by simp [St.set, look_cons]⟩))
            | false =>
              refine ⟨.one t .bf, hg.symm, fun E => ?_, h.2 rfl⟩
              simp only [Does, ht]
              refine ⟨Nat.le_of_ble_eq_true hb, rfl, rfl, fun t' d' e => ?_⟩
              obtain ⟨rfl, rfl⟩ := look_one e
              exact .inr (.inr (.inr ⟨rfl, by simp [St.set, look_cons]⟩))
          · exact hval hb h
    · exact h.elim
  · rename_i adds d
    split at h
    · rename_i t ht hg
      cases hb : Nat.ble (t + 1) n && freshB adds (viewOf ops o x).2 with
      | false => rw [hb] at h; exact h.elim
      | true =>
        rw [hb] at h
        simp only [Bool.and_eq_true] at hb
        refine ⟨⟨[(t, d)], adds, none⟩, hg.symm, fun E => ?_, hk _ h⟩
        simp only [Does, ht, St.of]
        refine ⟨Nat.le_of_ble_eq_true hb.1, freshB_ok hb.2, rfl, rfl, fun t' d' e => ?_⟩
        obtain ⟨rfl, rfl⟩ := look_one e
        exact .inr (.inl (by simp [look_cons]))
    · exact h.elim
  · rename_i s'
    cases ht : turns o with
    | false => rw [ht] at h; exact h.elim
    | true =>
      rw [ht] at h
      obtain ⟨p, h1, h2, h3⟩ := h
      exact ⟨p, h1, fun E => ⟨ht, h2⟩, h3⟩
  · exact h.elim
  · exact hstop h
theorem finD_ok {o : Oper} {rest : List Oper} {x : SH} {acc : List Pl} {a : Ask} {stop : MD} {k : Pl → MD} (hk : ∀ p, MDx c ops O n F (k p) → GD c ops O n F rest (p.ap x) (acc ++ [p])) (hstop : MDx c ops O n F stop → DG c ops O n F o rest x acc a)
    (h : MDx c ops O n F (finD ops O n o rest x acc a stop k)) : DG c ops O n F o rest x acc a := by
  unfold finD at h
  split at h
  · rename_i y z
    cases hb : ownB ops o with
    | true =>
      rw [hb] at h
      obtain ⟨p, h1, h2, h3⟩ := finD0_ok (stop := .bad) hk (fun h => h.elim) h
      exact ⟨p, h1, fun E => .inl (h2 E), h3⟩
    | false =>
      rw [hb] at h
      obtain ⟨p, h1, h2, h3⟩ := finD0_ok (stop := .bad) hk (fun h => h.elim) h
      exact ⟨p, h1, fun E => .inr (h2 E), h3⟩
  · exact finD0_ok hk hstop h
variable (hT : TOk c.P c.T)
include hT
theorem runD_sound : ∀ (rest : List Oper) (x : SH) (acc : List Pl), MDx c ops O n F (runD c.T ops O n rest x acc) → GD c ops O n F rest x acc
  | [], x, acc, h => ⟨[], trivial, by rw [List.append_nil]; exact h⟩
  | o :: rest, x, acc, h => by
    unfold runD at h
    rw [forceX_eq] at h
    split at h
    · exact h.elim
    · rename_i hw
      split at h
      · rename_i t ht
        cases hb : Nat.ble (t + 1) n with
        | false => rw [hb] at h; exact h.elim
        | true =>
          rw [hb] at h
          exact gd_cons (.inl ⟨hw, t, ht, Nat.le_of_ble_eq_true hb, rfl⟩) (runD_sound rest _ _ h)
      · exact h.elim
    · rename_i hw
      obtain ⟨p, h1, h2, h3⟩ := finD_ok (stop := .at o rest x acc (exec c.T (vw ops O n o x) o)) (fun p h => runD_sound rest _ _ h) (fun h => h) h
      exact gd_cons (stepOK_of hw h1 fun E => stp_of_does (c := { c with E := E }) hT (h2 E)) h3

theorem contD_ok {o : Oper} {rest : List Oper} {x : SH} {acc : List Pl} {a : Ask} (h : MDx c ops O n F (contD c.T ops O n o rest x acc a)) : DG c ops O n F o rest x acc a :=
  finD_ok (stop := .at o rest x acc a) (fun p h => runD_sound hT rest _ _ h) (fun h => h) h
variable {o : Oper} {rest : List Oper} {x : SH} {acc : List Pl}
theorem d_need {q : Prop} {a : Ask} (hp : q) (h : MDx c ops O n F (contD c.T ops O n o rest x acc a)) : MDx c ops O n F (.at o rest x acc (.need q a)) := by
  obtain ⟨p, h1, h2, h3⟩ := contD_ok hT h
  exact ⟨p, h1, fun E => ⟨hp, h2 E⟩, h3⟩
theorem d_elem {xs : List (List I)} {i : Nat} {g : List I → Ask} {d : List I} (hd : xs[i]? = some d) (h : MDx c ops O n F (contD c.T ops O n o rest x acc (g d))) : MDx c ops O n F (.at o rest x acc (.elem xs i g)) := by
  obtain ⟨p, h1, h2, h3⟩ := contD_ok hT h
  exact ⟨p, h1, fun E => ⟨d, hd, h2 E⟩, h3⟩
theorem d_obj {dep nm : Nat} {g : Ob → Ask} {ob : Ob} (hd : objAt (vw ops O n o x).S dep nm = some ob) (h : MDx c ops O n F (contD c.T ops O n o rest x acc (g ob))) : MDx c ops O n F (.at o rest x acc (.obj dep nm g)) := by
  obtain ⟨p, h1, h2, h3⟩ := contD_ok hT h
  exact ⟨p, h1, fun E => ⟨ob, hd, h2 E⟩, h3⟩
theorem d_call {f : FuncId} {args : List D} {res : D} {Hr : Heap} {t : Nat} (hspec : ASpec c.P f (D.imms (viewOf ops o x).2 args) ((viewOf ops o x).2 :: O) res Hr ((viewOf ops o x).2 :: O)) (ht : o.dst = some t) (hn : Nat.ble (t + 1) n = true)
    (hg : goneOf (vw ops O n o x) o = none) (hf : freshB Hr (viewOf ops o x).2 = true) (h : MDx c ops O n F (runD c.T ops O n rest ((⟨[(t, res.down)], downH Hr, none⟩ : Pl).ap x) (acc ++ [⟨[(t, res.down)], downH Hr, none⟩]))) :
    MDx c ops O n F (.at o rest x acc (.call f args)) := by
  refine ⟨⟨[(t, res.down)], downH Hr, none⟩, hg.symm, fun E => ?_, runD_sound hT rest _ _ h⟩
  refine does_call (c := { c with E := E }) (s := vw ops O n o x) hspec ht (Nat.le_of_ble_eq_true hn) (by simp [vw, St.of]) rfl (freshB_ok hf) ⟨rfl, rfl, fun t' d' e => ?_⟩
  obtain ⟨rfl, rfl⟩ := look_one e
  exact .inr (.inl (by simp [look_cons]))
theorem d_know {b : Bool} {t : Nat} (h1 : b = true → MDx c ops O n F (runD c.T ops O n rest ((Pl.one t .bt).ap x) (acc ++ [.one t .bt]))) (h2 : b = false → MDx c ops O n F (runD c.T ops O n rest ((Pl.one t .bf).ap x) (acc ++ [.one t .bf]))) :
    MDx c ops O n F (.know b t o rest x acc) := ⟨fun e => runD_sound hT _ _ _ (h1 e), fun e => runD_sound hT _ _ _ (h2 e)⟩
end

def deadsOf (g : Option Nat) : List (Nat × D) → List (Nat × D)
  | [] => []
  | (t, d) :: r => bif d.within (butG g) then deadsOf g r else (t, .dead) :: deadsOf g r
theorem deadsOf_dead {g : Option Nat} {t : Nat} {d : D} : ∀ {l : List (Nat × D)}, look (deadsOf g l) t = some d → d = .dead
  | [], h => by simp [deadsOf, look] at h
  | (k, x) :: r, h => by
    simp only [deadsOf] at h
    cases hw : x.within (butG g) with
    | true => rw [hw] at h; exact deadsOf_dead h
    | false =>
      rw [hw, cond_false, look_cons] at h
      split at h
      · simpa using h.symm
      · exact deadsOf_dead h
def dstL (o : Oper) (s' : St) : List (Nat × D) := match o.dst with
  | some t => [(t, s'.get t)]
  | none => []
def firstL (S : List Heap) : Heap := match S with
  | (y :: _) :: _ => [y]
  | _ => []
def modPl (ops : Array Oper) (O : List Heap) (n : Nat) (o : Oper) (x : SH) (s' : St) : Pl :=
  ⟨dstL o s' ++ deadsOf (goneOf (vw ops O n o x) o) x.1, firstL s'.S, goneOf (vw ops O n o x) o⟩
section
variable {c : Cx} {ops : Array Oper} {O : List Heap} {n : Nat} {F : SH → List Pl → Prop} (hT : TOk c.P c.T) {o : Oper} {rest : List Oper} {x : SH} {acc : List Pl}
include hT
theorem d_mod {s' : St} {p : Pl} (hp : modPl ops O n o x s' = p) (hS : s'.S = (p.adds ++ rmv p.rem (viewOf ops o x).2) :: O) (hn : s'.n = n) (h : MDx c ops O n F (runD c.T ops O n rest (p.ap x) (acc ++ [p]))) : MDx c ops O n F (.modS o rest x acc s') := by
  subst hp
  refine ⟨modPl ops O n o x s', rfl, ⟨hS, hn, fun t d e => ?_⟩, runD_sound hT _ _ _ h⟩
  simp only [modPl, look_append] at e
  cases hl : look (dstL o s') t with
  | none => rw [hl] at e; exact .inl (deadsOf_dead e)
  | some d' =>
    rw [hl] at e
    simp only [Option.some.injEq] at e
    subst e
    unfold dstL at hl
    split at hl
    · obtain ⟨rfl, rfl⟩ := look_one hl
      unfold St.get
      split
      · rename_i h1; exact .inr (.inl h1)
      · exact .inl rfl
    · simp [look] at hl
variable (hfn : c.P.funcs[c.f]? = some c.fn)
include hfn
theorem d_done {k : List Item} {x0 : SH} (hok : okD ops acc x0 = true) (h : MSx c (run c.T c.stop 1000 k (St.of O n x))) : MDx c ops O n (FD c ops O n x0 k) (.done x acc) := fd_done hok (tgt_rch (run_sound hT hfn 1000 k _ h))
theorem m_drawn {id : Nat} {s : St} {k : List Item} (hm : c.P.follows .mixedOrders = true) {H : Heap} (hS : s.S = H :: O) (h : MDx c ops O s.n (FD c ops O s.n (s.σ, H) k) (runD c.T ops O s.n ops.toList (s.σ, H) [])) :
    MSx c (.drawn id ops s k) := by
  obtain ⟨qs, h1, h2⟩ := runD_sound hT _ _ _ h
  rw [List.nil_append] at h2
  have hs : s = St.of O s.n (s.σ, H) := by
    cases s
    simp only at hS
    subst hS
    rfl
  show Rch c (.code (.region id ops true) :: k) s
  rw [hs]
  exact rch_tail hm h2.1 h1 h2.2
end
end Go.AI
