/- The layer of abstract runs, part 20. -/
import Derived.Test.YtmhllkmceipdcaaGreatDoorYewS
set_option linter.unusedSimpArgs false
set_option linter.unusedVariables false
set_option linter.all false

namespace Go.AI
def has (H : Heap) (nm : Nat) : Bool := match look H nm with
  | some _ => true
  | none => false
theorem has_iff {H : Heap} {nm : Nat} : has H nm = true ↔ ∃ ob, look H nm = some ob := by
  unfold has
  cases look H nm <;> simp
mutual
def D.within (p : Nat → Bool) : D → Bool
  | .own 0 nm _ _ => p nm
  | .osl 0 nm => p nm
  | .agg cs => D.withins p cs
  | .tup cs => D.withins p cs
  | .fn _ a b => D.withins p a && D.withins p b
  | _ => true
def D.withins (p : Nat → Bool) : List D → Bool
  | [] => true
  | d :: r => d.within p && D.withins p r
end
def Ob.within (p : Nat → Bool) : Ob → Bool
  | .box cs => D.withins p cs
  | .tb _ cs => D.withins p cs
  | .arr _ _ _ _ _ => true
  | .mp _ _ => true
section
variable {K K' : Kn} {ρ ρ' : Nat → Nat → Loc} {sh sh' : Nat → Nat → Option Sh} {p : Nat → Bool}
structure Moves (p : Nat → Bool) (K K' : Kn) (ρ ρ' : Nat → Nat → Loc) (sh sh' : Nat → Nat → Option Sh) : Prop where
  le : K.le K'
  z : ∀ nm x, p nm = true → sh 0 nm = some x → sh' 0 nm = some x ∧ ρ' 0 nm = ρ 0 nm
  s : ∀ d nm x, sh (d + 1) nm = some x → sh' (d + 1) nm = some x ∧ ρ' (d + 1) nm = ρ (d + 1) nm
mutual
theorem RepD.move (h : Moves p K K' ρ ρ' sh sh') : ∀ {v : Value} {d : D}, RepD K ρ sh v d → d.within p = true → RepD K' ρ' sh' v d
  | _, _, .dead x, _ => .dead x
  | _, _, .i r, _ => .i (r.mono h.le)
  | _, _, .agg r, e => .agg (RepDL.move h r (by simpa [D.within] using e))
  | _, _, .tup r, e => .tup (RepDL.move h r (by simpa [D.within] using e))
  | _, _, .box (dep := dep) e, hp => by
    cases dep with
    | zero => obtain ⟨h1, h2⟩ := h.z _ _ (by simpa [D.within] using hp) e; rw [← h2]; exact .box h1
    | succ dep => obtain ⟨h1, h2⟩ := h.s _ _ _ e; rw [← h2]; exact .box h1
  | _, _, .arr (dep := dep) e l, hp => by
    cases dep with
    | zero => obtain ⟨h1, h2⟩ := h.z _ _ (by simpa [D.within] using hp) e; rw [← h2]; exact .arr h1 l
    | succ dep => obtain ⟨h1, h2⟩ := h.s _ _ _ e; rw [← h2]; exact .arr h1 l
  | _, _, .osl (dep := dep) e, hp => by
    cases dep with
    | zero => obtain ⟨h1, h2⟩ := h.z _ _ (by simpa [D.within] using hp) e; rw [← h2]; exact .osl h1
    | succ dep => obtain ⟨h1, h2⟩ := h.s _ _ _ e; rw [← h2]; exact .osl h1
  | _, _, .omp (dep := dep) e, hp => by
    cases dep with
    | zero => obtain ⟨h1, h2⟩ := h.z _ _ (by simpa [D.within] using hp) e; rw [← h2]; exact .omp h1
    | succ dep => obtain ⟨h1, h2⟩ := h.s _ _ _ e; rw [← h2]; exact .omp h1
  | _, _, .xsl r e k l, _ => .xsl (r.mono h.le) e (fun j c hc => h.le _ _ _ (k j c hc)) l
  | _, _, .xnil, _ => .xnil
  | _, _, .bt, _ => .bt
  | _, _, .bf, _ => .bf
  | _, _, .fn r s, e => by
    simp only [D.within, Bool.and_eq_true] at e
    exact .fn (RepDL.move h r e.1) (RepDL.move h s e.2)
theorem RepDL.move (h : Moves p K K' ρ ρ' sh sh') : ∀ {v : List Value} {d : List D}, RepDL K ρ sh v d → D.withins p d = true → RepDL K' ρ' sh' v d
  | _, _, .nil, _ => .nil
  | _, _, .cons r rs, e => by
    simp only [D.withins, Bool.and_eq_true] at e
    exact .cons (RepD.move h r e.1) (RepDL.move h rs e.2)
end
theorem OwnAt.move {w w' : World} {l : Loc} {ob : Ob} (h : OwnAt K ρ sh w l ob) (hs : Moves p K K' ρ ρ' sh sh') (hp : ob.within p = true) (hw : backed l ob → w'.heap[l.block]? = w.heap[l.block]?) (hK : backed l ob → ∀ o, K' l.block o = K l.block o) :
    OwnAt K' ρ' sh' w' l ob := by
  cases ob with
  | mp kk m =>
    obtain ⟨⟨es, ck, h1, h2⟩, h3⟩ := h
    exact ⟨⟨es, ck, by rw [hw trivial]; exact h1, h2⟩, fun o => by rw [hK trivial]; exact h3 o⟩
  | box cs =>
    obtain ⟨c, T, h1, h2, h3⟩ := h
    exact ⟨c, T, by rw [hw trivial]; exact h1, h2.move hs hp, fun o => by rw [hK trivial]; exact h3 o⟩
  | tb T cs =>
    obtain ⟨c, h1, h2, h3⟩ := h
    exact ⟨c, by rw [hw trivial]; exact h1, h2.move hs hp, fun o => by rw [hK trivial]; exact h3 o⟩
  | arr ty es n xs wr =>
    obtain ⟨h1, h2, h2', h2'', h3⟩ := h
    refine ⟨h1, h2, h2', h2'', ?_⟩
    by_cases hc : l.base = none
    · rcases h3 with h3 | ⟨h4, _⟩
      · exact .inl h3
      · rw [hc] at h4; cases h4
    · rcases h3 with ⟨_, h3⟩ | ⟨h4, c, h5, h6, h7, h8, h9, h10⟩
      · exact absurd h3 hc
      · refine .inr ⟨h4, c, by rw [hw hc]; exact h5, h6, h7.mono hs.le, fun e o => by rw [hK hc]; exact h8 e o, fun o ho => by rw [hK hc]; exact h9 o ho, fun e o ho => by rw [hK hc]; exact h10 e o ho⟩
end
section
variable {E : Env} {K : Kn} {ρ : Nat → Nat → Loc} {HL Hv : Heap} {O : List Heap} {w : World}
def RestB (ρ : Nat → Nat → Loc) (HL Hv : Heap) (b : Nat) : Prop := ∃ nm ob, look HL nm = some ob ∧ look Hv nm = none ∧ backed (ρ 0 nm) ob ∧ (ρ 0 nm).block = b
def fr (h : HInv E K ρ (HL :: O) w) (Hv : Heap) : Env where
  K0 := K
  ρ0 := E.ρ0
  w0 := w
  pr := fun b => E.pr b ∨ RestB ρ HL Hv b
  lt := by
    rintro b (hb | ⟨nm, ob, h1, _, h2, rfl⟩)
    · exact Nat.lt_of_lt_of_le (E.lt b hb) h.size
    · exact (h.own 0 nm ob (by simpa [objAt] using h1)).lt h2
theorem shape_part (hv : ∀ nm ob, look Hv nm = some ob → look HL nm = some ob) : Moves (has Hv) K K ρ ρ (shape (HL :: O)) (shape (Hv :: O)) := by
  refine ⟨K.le_refl, fun nm x hp e => ⟨?_, rfl⟩, fun d nm x e => ⟨by simpa [shape, objAt] using e, rfl⟩⟩
  obtain ⟨ob, h1⟩ := has_iff.1 hp
  have h2 := hv _ _ h1
  simp only [shape, objAt, List.getElem?_cons_zero, h2] at e
  simpa [shape, objAt, h1] using e
theorem HInv.part (h : HInv E K ρ (HL :: O) w) (hv : ∀ nm ob, look Hv nm = some ob → look HL nm = some ob) (hin : ∀ nm ob, look Hv nm = some ob → ob.within (has Hv) = true) : HInv (fr h Hv) K ρ (Hv :: O) w := by
  have hob : ∀ d nm ob, objAt (Hv :: O) d nm = some ob → objAt (HL :: O) d nm = some ob := by
    intro d nm ob e
    cases d with
    | zero => simpa [objAt] using hv nm ob (by simpa [objAt] using e)
    | succ d => simpa [objAt] using e
  refine ⟨h.holds, ?_, fun _ _ _ _ _ _ a b => h.inj _ _ _ _ _ _ (hob _ _ _ a) (hob _ _ _ b), Nat.le_refl _, fun _ _ _ => rfl, ?_, h.outer, K.le_refl, fun _ _ _ e => .inl e, ⟨rfl, rfl, rfl⟩⟩
  · intro d nm ob e
    have h0 := h.own _ _ _ (hob _ _ _ e)
    cases d with
    | zero =>
      have e' : look Hv nm = some ob := by simpa [objAt] using e
      have hm := shape_part (K := K) (ρ := fun d n => ρ (0 + d) n) (O := O) hv
      exact h0.move hm (hin _ _ e') (fun _ => rfl) (fun _ _ => rfl)
    | succ d => simpa using h0
  · rintro nm ob e hb (hp | ⟨n2, o2, h1, h2, h3, h4⟩)
    · exact h.loc _ _ (hob _ _ _ e) hb hp
    · have := (h.inj 0 n2 o2 0 nm ob (by simpa [objAt] using h1) (hob _ _ _ e) h3 hb h4).2
      subst this
      have e' : look Hv n2 = some ob := by simpa [objAt] using e
      rw [h2] at e'
      cases e'
def Joins (HL Hv Hv' Hn : Heap) : Prop := ∀ nm, look Hn nm = match look Hv' nm with
  | some ob => some ob
  | none => match look Hv nm with
    | some _ => none
    | none => look HL nm
def butG (g : Option Nat) (nm : Nat) : Bool := match g with
  | none => true
  | some x => !Nat.beq x nm
theorem butG_ne {g : Option Nat} {nm : Nat} (h : butG g nm = true) : g ≠ some nm := by
  cases g with
  | none => simp
  | some x =>
    intro e
    simp only [Option.some.injEq] at e
    subst e
    simp [butG] at h
theorem HInv.join {K' : Kn} {ρ' : Nat → Nat → Loc} {Hv' Hn : Heap} {w' : World} {g : Option Nat} (h : HInv E K ρ (HL :: O) w) (h' : HInv (fr h Hv) K' ρ' (Hv' :: O) w') (hv : ∀ nm ob, look Hv nm = some ob → look HL nm = some ob)
    (hk : Keeps g ρ ρ' (shape (Hv :: O)) (shape (Hv' :: O))) (hfr : ∀ nm, has Hv' nm = true → has HL nm = true → has Hv nm = true) (hin : ∀ nm ob, look HL nm = some ob → look Hv nm = none → ob.within (butG g) = true) (hj : Joins HL Hv Hv' Hn) :
    ∃ ρ'', HInv E K' ρ'' (Hn :: O) w' ∧ Moves (butG g) K K' ρ ρ'' (shape (HL :: O)) (shape (Hn :: O)) ∧ Stays K' K' ρ' ρ'' (shape (Hv' :: O)) (shape (Hn :: O)) := by
  let ρ'' : Nat → Nat → Loc := fun d n => match d with
    | 0 => match look Hv' n with
      | some _ => ρ' 0 n
      | none => ρ 0 n
    | d + 1 => ρ' (d + 1) n
  have hout : ∀ d n, ρ' (d + 1) n = ρ (d + 1) n := fun d n => by rw [h'.outer, h.outer]; rfl
  have r0 : ∀ n ob, look Hv' n = some ob → ρ'' 0 n = ρ' 0 n := by intro n ob e; simp only [ρ'', e]
  have r1 : ∀ n, look Hv' n = none → ρ'' 0 n = ρ 0 n := by intro n e; simp only [ρ'', e]
  have r2 : ∀ d n, ρ'' (d + 1) n = ρ (d + 1) n := by intro d n; simp only [ρ'', hout]
  have hst : Stays K' K' ρ' ρ'' (shape (Hv' :: O)) (shape (Hn :: O)) := by
    refine ⟨K'.le_refl, fun d n x e => ?_, fun d n x e => ?_⟩
    · cases d with
      | zero =>
        cases hl : look Hv' n with
        | none => simp [shape, objAt, hl] at e
        | some ob =>
          have := hj n
          rw [hl] at this
          simpa [shape, objAt, hl, this] using e
      | succ d => simpa [shape, objAt] using e
    · cases d with
      | zero =>
        cases hl : look Hv' n with
        | none => simp [shape, objAt, hl] at e
        | some ob => exact r0 _ _ hl
      | succ d => rfl
  have hmv : Moves (butG g) K K' ρ ρ'' (shape (HL :: O)) (shape (Hn :: O)) := by
    refine ⟨h'.Kle, fun nm x hp e => ?_, fun d nm x e => ⟨by simpa [shape, objAt] using e, r2 _ _⟩⟩
    have hp2 := butG_ne hp
    have hp1 : has HL nm = true := by
      cases hx : look HL nm with
      | none => simp [shape, objAt, hx] at e
      | some ob => exact has_iff.2 ⟨_, hx⟩
    cases hl : look Hv nm with
    | some ob =>
      have e1 : shape (Hv :: O) 0 nm = some x := by
        have := hv _ _ hl
        simp only [shape, objAt, List.getElem?_cons_zero, this] at e
        simpa [shape, objAt, hl] using e
      obtain ⟨a1, a2⟩ := hk 0 nm x (.inr hp2) e1
      refine ⟨hst.shp _ _ _ a1, ?_⟩
      rw [hst.loc _ _ _ a1, a2]
    | none =>
      have h1 : look Hv' nm = none := by
        cases hc : look Hv' nm with
        | none => rfl
        | some ob =>
          have := hfr nm (has_iff.2 ⟨_, hc⟩) hp1
          obtain ⟨_, h2⟩ := has_iff.1 this
          rw [hl] at h2; cases h2
      have := hj nm
      rw [h1, hl] at this
      refine ⟨?_, r1 _ h1⟩
      simp only [shape, objAt, List.getElem?_cons_zero] at e ⊢
      rw [this]; exact e
  have hrest : ∀ b, RestB ρ HL Hv b → w'.heap[b]? = w.heap[b]? ∧ ∀ o, K' b o = K b o := by
    intro b hb
    obtain ⟨nm, ob, h1, h2, h3, h4⟩ := id hb
    refine ⟨?_, fun o => ?_⟩
    · refine h'.old b (.inr hb) fun d n o2 e hbk hbe => ?_
      have e1 : objAt (HL :: O) (d + 1) n = some o2 := by simpa [objAt] using e
      rw [hout] at hbk hbe
      have := (h.inj 0 nm ob (d + 1) n o2 (by simpa [objAt] using h1) e1 h3 hbk (by rw [h4, hbe])).1
      omega
    · cases hK : K' b o with
      | some x =>
        rcases h'.Knew _ _ _ hK with h5 | h5
        · exact h5.symm
        · exact absurd (Or.inr hb) h5
      | none =>
        cases hK2 : K b o with
        | none => rfl
        | some x => have := h'.Kle _ _ _ hK2; rw [hK] at this; cases this
  have hcase : ∀ n ob, look Hn n = some ob → (look Hv' n = some ob ∧ ρ'' 0 n = ρ' 0 n) ∨ (look Hv' n = none ∧ look Hv n = none ∧ look HL n = some ob ∧ ρ'' 0 n = ρ 0 n) := by
    intro n ob e
    rw [hj n] at e
    cases h1 : look Hv' n with
    | some o1 =>
      rw [h1] at e
      exact .inl ⟨e, r0 _ _ h1⟩
    | none =>
      rw [h1] at e
      cases h2 : look Hv n with
      | some _ => rw [h2] at e; cases e
      | none =>
        rw [h2] at e
        exact .inr ⟨rfl, rfl, e, r1 _ h1⟩
  refine ⟨ρ'', ⟨h'.holds, ?_, ?_, Nat.le_trans h.size h'.size, ?_, ?_, ?_, fun b o x e => h'.Kle _ _ _ (h.Kle _ _ _ e), ?_, ?_⟩, hmv, hst⟩
  · intro d n ob e
    cases d with
    | zero =>
      have e' : look Hn n = some ob := by simpa [objAt] using e
      have e0 : (fun d n => ρ'' (0 + d) n) = ρ'' := by funext d n; rw [Nat.zero_add]
      rw [e0]
      rcases hcase n ob e' with ⟨h1, h2⟩ | ⟨h1, h2, h3, h4⟩
      · rw [h2]
        have h0 := h'.own 0 n ob (by simpa [objAt] using h1)
        have e1 : (fun d n => ρ' (0 + d) n) = ρ' := by funext d n; rw [Nat.zero_add]
        rw [e1] at h0
        exact h0.stays hst (fun _ => rfl) (fun _ _ => rfl)
      · rw [h4]
        have h0 := h.own 0 n ob (by simpa [objAt] using h3)
        have e1 : (fun d n => ρ (0 + d) n) = ρ := by funext d n; rw [Nat.zero_add]
        rw [e1] at h0
        refine h0.move hmv (hin _ _ h3 h2) (fun hb => ?_) (fun hb => ?_)
        · exact (hrest _ ⟨n, ob, h3, h2, hb, rfl⟩).1
        · exact (hrest _ ⟨n, ob, h3, h2, hb, rfl⟩).2
    | succ d =>
      have h0 := h'.own (d + 1) n ob (by simpa [objAt] using e)
      have e1 : (fun d' n => ρ'' (d + 1 + d') n) = fun d' n => ρ' (d + 1 + d') n := by
        funext d' n
        rw [show d + 1 + d' = (d + d') + 1 by omega]
      rw [e1, r2, ← hout]
      simpa using h0
  · intro d n ob d' n' ob' e e' b b' hbe
    cases d with
    | zero =>
      cases d' with
      | zero =>
        refine ⟨rfl, ?_⟩
        rcases hcase n ob (by simpa [objAt] using e) with ⟨h1, h2⟩ | ⟨h1, h2, h3, h4⟩ <;> rcases hcase n' ob' (by simpa [objAt] using e') with ⟨k1, k2⟩ | ⟨k1, k2, k3, k4⟩
        · rw [h2] at b hbe; rw [k2] at b' hbe
          exact (h'.inj 0 n ob 0 n' ob' (by simpa [objAt] using h1) (by simpa [objAt] using k1) b b' hbe).2
        · rw [h2] at b hbe; rw [k4] at b' hbe
          exact absurd (Or.inr ⟨n', ob', k3, k2, b', hbe.symm⟩) (h'.loc n ob (by simpa [objAt] using h1) b)
        · rw [h4] at b hbe; rw [k2] at b' hbe
          exact absurd (Or.inr ⟨n, ob, h3, h2, b, hbe⟩) (h'.loc n' ob' (by simpa [objAt] using k1) b')
        · rw [h4] at b hbe; rw [k4] at b' hbe
          exact (h.inj 0 n ob 0 n' ob' (by simpa [objAt] using h3) (by simpa [objAt] using k3) b b' hbe).2
      | succ d' =>
        exfalso
        have e2 : objAt (HL :: O) (d' + 1) n' = some ob' := by simpa [objAt] using e'
        have e3 : objAt (Hv' :: O) (d' + 1) n' = some ob' := by simpa [objAt] using e'
        rcases hcase n ob (by simpa [objAt] using e) with ⟨h1, h2⟩ | ⟨h1, h2, h3, h4⟩
        · rw [h2] at b hbe; rw [r2, ← hout] at b' hbe
          have := (h'.inj 0 n ob (d' + 1) n' ob' (by simpa [objAt] using h1) e3 b b' hbe).1
          omega
        · rw [h4] at b hbe; rw [r2] at b' hbe
          have := (h.inj 0 n ob (d' + 1) n' ob' (by simpa [objAt] using h3) e2 b b' hbe).1
          omega
    | succ d =>
      have e2 : objAt (HL :: O) (d + 1) n = some ob := by simpa [objAt] using e
      have e3 : objAt (Hv' :: O) (d + 1) n = some ob := by simpa [objAt] using e
      cases d' with
      | zero =>
        exfalso
        rcases hcase n' ob' (by simpa [objAt] using e') with ⟨h1, h2⟩ | ⟨h1, h2, h3, h4⟩
        · rw [h2] at b' hbe; rw [r2, ← hout] at b hbe
          have := (h'.inj (d + 1) n ob 0 n' ob' e3 (by simpa [objAt] using h1) b b' hbe).1
          omega
        · rw [h4] at b' hbe; rw [r2] at b hbe
          have := (h.inj (d + 1) n ob 0 n' ob' e2 (by simpa [objAt] using h3) b b' hbe).1
          omega
      | succ d' =>
        rw [r2] at b b' hbe
        rw [r2] at hbe
        exact h.inj _ _ _ _ _ _ e2 (by simpa [objAt] using e') b b' hbe
  · intro b hb hno
    have h1 := h'.old b (.inl hb) (by
      intro d n ob e hbk
      have := hno d n ob (by simpa [objAt] using e) (by rw [r2, ← hout]; exact hbk)
      rw [r2, ← hout] at this
      exact this)
    rw [h1]
    show w.heap[b]? = _
    refine h.old b hb fun d n ob e hbk => ?_
    have := hno d n ob (by simpa [objAt] using e) (by rw [r2]; exact hbk)
    rwa [r2] at this
  · intro n ob e b
    rcases hcase n ob (by simpa [objAt] using e) with ⟨h1, h2⟩ | ⟨h1, h2, h3, h4⟩
    · rw [h2] at b ⊢
      exact fun hp => h'.loc n ob (by simpa [objAt] using h1) b (.inl hp)
    · rw [h4] at b ⊢
      exact h.loc n ob (by simpa [objAt] using h3) b
  · intro d
    funext n
    rw [r2, h.outer]
  · intro b o x e
    rcases h'.Knew _ _ _ e with h1 | h1
    · exact h.Knew _ _ _ h1
    · exact .inr fun hp => h1 (.inl hp)
  · obtain ⟨a1, a2, a3⟩ := h'.rest
    obtain ⟨b1, b2, b3⟩ := h.rest
    exact ⟨a1.trans b1, a2.trans b2, a3.trans b3⟩
end
end Go.AI
