/- The layer of abstract runs, part 30. -/
import Derived.Test.YtmhllkmceipdcaaGreatDoorYewZC
set_option linter.unusedSimpArgs false
set_option linter.unusedVariables false
set_option linter.all false

namespace Go.AI
open Classical in
noncomputable def frz (K : Kn) (w : World) (bl m : Nat) : Kn := fun b o => if b = bl ∧ o < m then w.cell? ⟨b, o, none⟩ else K b o
section
variable {E : Env} {K : Kn} {ρ : Nat → Nat → Loc} {H : Heap} {O : List Heap} {w : World}
theorem objAt_over {H : Heap} {O : List Heap} {nm : Nat} {ob ob' : Ob} {d n : Nat} {x : Ob} (e : objAt (((nm, ob') :: H) :: O) d n = some x) : (d = 0 ∧ n = nm ∧ x = ob') ∨ (¬ (d = 0 ∧ n = nm) ∧ objAt (H :: O) d n = some x) := by
  cases d with
  | zero =>
    have e' : look ((nm, ob') :: H) n = some x := by simpa [objAt] using e
    rw [look_cons] at e'
    split at e'
    · rename_i h; exact .inl ⟨rfl, h.symm, by simpa using e'.symm⟩
    · rename_i h; exact .inr ⟨fun h' => h h'.2.symm, by simpa [objAt] using e'⟩
  | succ d => exact .inr ⟨fun h => by omega, by simpa [objAt] using e⟩
theorem shape_over {nm : Nat} {ob ob' : Ob} (ho : look H nm = some ob) (hs : ob'.sh = ob.sh) : shape (((nm, ob') :: H) :: O) = shape (H :: O) := by
  funext d n
  cases d with
  | zero =>
    simp only [shape, objAt, List.getElem?_cons_zero, look_cons]
    split
    · rename_i h; subst h; simp [ho, hs]
    · rfl
  | succ d => simp [shape, objAt]
theorem HInv.freeze {nm ty es n : Nat} {xs : List (List I)} {wr : Bool} (h : HInv E K ρ (H :: O) w) (ho : look H nm = some (.arr ty es n xs wr)) :
    ∃ K', K.le K' ∧ HInv E K' ρ (((nm, .arr ty es n xs false) :: H) :: O) w := by
  have ho' : objAt (H :: O) 0 nm = some (.arr ty es n xs wr) := by simpa [objAt] using ho
  have hown := h.own 0 nm _ ho'
  have e0 : (fun d n => ρ (0 + d) n) = ρ := by funext d n; rw [Nat.zero_add]
  rw [e0] at hown
  have hsh : shape (((nm, Ob.arr ty es n xs false) :: H) :: O) = shape (H :: O) := shape_over ho rfl
  have hdrop : ∀ d, shape ((((nm, Ob.arr ty es n xs false) :: H) :: O).drop d) = shape ((H :: O).drop d) := by
    intro d
    cases d with
    | zero => exact hsh
    | succ d => rfl
  have build : ∀ K', K.le K' → (∀ b o x, K' b o = some x → w.cell? ⟨b, o, none⟩ = some x) → (∀ b o x, K' b o = some x → K b o = some x ∨ ¬ E.pr b) →
      OwnAt K' ρ (shape (H :: O)) w (ρ 0 nm) (.arr ty es n xs false) → (∀ d n' ob, objAt (H :: O) d n' = some ob → ¬ (d = 0 ∧ n' = nm) → backed (ρ d n') ob → ∀ o, K' (ρ d n').block o = K (ρ d n').block o) →
      HInv E K' ρ (((nm, .arr ty es n xs false) :: H) :: O) w := by
    intro K' hle hholds hnew hown' hsame
    refine ⟨hholds, fun d n' ob e => ?_, fun d n1 o1 d' n2 o2 e1 e2 b1 b2 hbe => ?_, h.size, fun b hb hno => h.old b hb fun d n' ob e => hno d n' ob (by simpa [objAt] using e), fun n' ob e hb => ?_, h.outer, fun b o x e => hle _ _ _ (h.Kle _ _ _ e), fun b o x e => ?_, h.rest⟩
    · rw [hdrop]
      rcases objAt_over (ob := .arr ty es n xs wr) e with ⟨rfl, rfl, rfl⟩ | ⟨hne, e'⟩
      · rw [e0]; exact hown'
      · exact (h.own _ _ _ e').stays ⟨hle, fun _ _ _ e => e, fun _ _ _ _ => rfl⟩ (fun _ => rfl) (hsame _ _ _ e' hne)
    · have old : ∀ {d n' x}, objAt (((nm, Ob.arr ty es n xs false) :: H) :: O) d n' = some x → backed (ρ d n') x → ∃ y, objAt (H :: O) d n' = some y ∧ backed (ρ d n') y := by
        intro d n' x e hb
        rcases objAt_over (ob := .arr ty es n xs wr) e with ⟨rfl, rfl, rfl⟩ | ⟨_, e'⟩
        · exact ⟨_, ho', hb⟩
        · exact ⟨_, e', hb⟩
      obtain ⟨y1, a1, c1⟩ := old e1 b1
      obtain ⟨y2, a2, c2⟩ := old e2 b2
      exact h.inj _ _ _ _ _ _ a1 a2 c1 c2 hbe
    · rcases objAt_over (ob := .arr ty es n xs wr) e with ⟨_, rfl, rfl⟩ | ⟨_, e'⟩
      · exact h.loc _ _ ho' hb
      · exact h.loc _ _ e' hb
    · rcases hnew _ _ _ e with e' | e'
      · exact h.Knew _ _ _ e'
      · exact .inr e'
  obtain ⟨h1, h2, h3, h4, h5⟩ := id hown
  rcases h5 with h5 | ⟨h5, cl, h6, h7, h8, h9, h10, h11⟩
  · exact ⟨K, K.le_refl, build K K.le_refl h.holds (fun _ _ _ e => .inl e) ⟨h1, h2, h3, h4, .inl h5⟩ fun _ _ _ _ _ _ _ => rfl⟩
  · have hbk : backed (ρ 0 nm) (.arr ty es n xs wr) := by show _ ≠ none; rw [h5]; simp
    cases wr with
    | false => exact ⟨K, K.le_refl, build K K.le_refl h.holds (fun _ _ _ e => .inl e) hown fun _ _ _ _ _ _ _ => rfl⟩
    | true =>
      have hK0 := h9 rfl
      have hcell := cell_of_heap h6
      have hle : K.le (frz K w (ρ 0 nm).block (n * es)) := by
        intro b o x e
        unfold frz
        split
        · exact h.holds _ _ _ e
        · exact e
      refine ⟨_, hle, build _ hle ?_ ?_ ?_ ?_⟩
      · intro b o x e
        unfold frz at e
        split at e
        · exact e
        · exact h.holds _ _ _ e
      · intro b o x e
        unfold frz at e
        split at e
        · rename_i hb; rw [hb.1]; exact .inr (h.loc _ _ ho' hbk)
        · exact .inl e
      · refine ⟨h1, h2, h3, h4, .inr ⟨h5, cl, h6, h7, h8.mono hle, fun e => (by cases e), fun o hlo => ?_, fun _ o hlo => ?_⟩⟩
        · unfold frz
          rw [if_neg (by omega)]
          exact hK0 o
        · unfold frz
          rw [if_pos ⟨rfl, hlo⟩, hcell]
      · intro d n' ob e hne hb o
        unfold frz
        rw [if_neg]
        rintro ⟨hbe, _⟩
        exact hne (h.inj _ _ _ _ _ _ e ho' hb hbk hbe)
end
section
variable {c : Cx} {todo : List Item} {s : St}
def frzσ (nm : Nat) (d : I) : List (Nat × D) → List (Nat × D)
  | [] => []
  | (t, .osl 0 k) :: r => bif Nat.beq k nm then (t, .i d) :: frzσ nm d r else (t, .osl 0 k) :: frzσ nm d r
  | p :: r => p :: frzσ nm d r
theorem look_frzσ {nm : Nat} {d : I} {t : Nat} {x : D} : ∀ {l : List (Nat × D)}, look (frzσ nm d l) t = some x → look l t = some x ∨ (look l t = some (.osl 0 nm) ∧ x = .i d)
  | [], h => by simp [frzσ, look] at h
  | (k, y) :: r, h => by
    unfold frzσ at h
    split at h
    · rename_i heq; cases heq
    · rename_i t' k' r' heq
      simp only [List.cons.injEq, Prod.mk.injEq] at heq
      obtain ⟨⟨rfl, rfl⟩, rfl⟩ := heq
      rw [look_cons]
      cases hb : Nat.beq k' nm with
      | true =>
        obtain rfl := Nat.eq_of_beq_eq_true hb
        rw [hb, cond_true, look_cons] at h
        split at h
        · rename_i e; rw [if_pos e]; exact .inr ⟨rfl, by simpa using h.symm⟩
        · rename_i e; rw [if_neg e]; exact look_frzσ h
      | false =>
        rw [hb, cond_false, look_cons] at h
        split at h
        · rename_i e; rw [if_pos e]; exact .inl h
        · rename_i e; rw [if_neg e]; exact look_frzσ h
    · rename_i p r' hne heq
      simp only [List.cons.injEq] at heq
      obtain ⟨rfl, rfl⟩ := heq
      rw [look_cons] at h ⊢
      split at h
      · rename_i e; rw [if_pos e]; exact .inl h
      · rename_i e; rw [if_neg e]; exact look_frzσ h
theorem wk_freeze (nm : Nat) {ty es n : Nat} {xs : List (List I)} {wr : Bool} {H : Heap} {O : List Heap} (hS : s.S = H :: O) (ho : look H nm = some (.arr ty es n xs wr)) : Wk c s { σ := frzσ nm (.sl es n xs) s.σ, S := ((nm, .arr ty es n xs false) :: H) :: O, n := s.n } := by
  intro K ρ a w hi
  have hh := hi.h
  rw [hS] at hh
  obtain ⟨K', hle, hI⟩ := hh.freeze ho
  have hsh : shape (((nm, Ob.arr ty es n xs false) :: H) :: O) = shape (H :: O) := shape_over ho rfl
  refine ⟨K', ρ, hI, hi.defers, hi.size, fun t d e => ?_⟩
  rw [hsh]
  rcases look_frzσ e with e' | ⟨e', rfl⟩
  · have := hi.slots _ _ e'
    rw [hS] at this
    exact this.stays ⟨hle, fun _ _ _ e => e, fun _ _ _ _ => rfl⟩
  · have h1 := hi.slots _ _ e'
    rw [hS] at h1
    have hown := hI.own 0 nm (.arr ty es n xs false) (by simp [objAt, look_cons])
    have := inv_osl (es := es) (len := n) h1 (by simp [shape, objAt, ho, Ob.sh])
    rw [this]
    exact .i (rep_frozen hown)
mutual
def D.ren (a b : Nat) : D → D
  | .own 0 nm j off => .own 0 (bif Nat.beq nm a then b else nm) j off
  | .osl 0 nm => .osl 0 (bif Nat.beq nm a then b else nm)
  | .agg cs => .agg (D.rens a b cs)
  | .tup cs => .tup (D.rens a b cs)
  | .fn f x y => .fn f (D.rens a b x) (D.rens a b y)
  | d => d
def D.rens (a b : Nat) : List D → List D
  | [] => []
  | d :: r => d.ren a b :: D.rens a b r
end
def renN (a b n : Nat) : Nat := bif Nat.beq n a then b else n
structure Ren (a b : Nat) (ρ ρ' : Nat → Nat → Loc) (sh sh' : Nat → Nat → Option Sh) : Prop where
  z : ∀ nm x, sh 0 nm = some x → sh' 0 (renN a b nm) = some x ∧ ρ' 0 (renN a b nm) = ρ 0 nm
  s : ∀ d nm x, sh (d + 1) nm = some x → sh' (d + 1) nm = some x ∧ ρ' (d + 1) nm = ρ (d + 1) nm
section
variable {K : Kn} {ρ ρ' : Nat → Nat → Loc} {sh sh' : Nat → Nat → Option Sh} {p q : Nat}
mutual
theorem RepD.ren (h : Ren p q ρ ρ' sh sh') : ∀ {v : Value} {d : D}, RepD K ρ sh v d → RepD K ρ' sh' v (d.ren p q)
  | _, _, .dead x => .dead x
  | _, _, .i r => .i r
  | _, _, .agg r => .agg (RepDL.ren h r)
  | _, _, .tup r => .tup (RepDL.ren h r)
  | _, _, .box (dep := dep) e => by
    cases dep with
    | zero => obtain ⟨h1, h2⟩ := h.z _ _ e; rw [← h2]; exact .box h1
    | succ dep => obtain ⟨h1, h2⟩ := h.s _ _ _ e; rw [← h2]; exact .box h1
  | _, _, .arr (dep := dep) e l => by
    cases dep with
    | zero => obtain ⟨h1, h2⟩ := h.z _ _ e; rw [← h2]; exact .arr h1 l
    | succ dep => obtain ⟨h1, h2⟩ := h.s _ _ _ e; rw [← h2]; exact .arr h1 l
  | _, _, .osl (dep := dep) e => by
    cases dep with
    | zero => obtain ⟨h1, h2⟩ := h.z _ _ e; rw [← h2]; exact .osl h1
    | succ dep => obtain ⟨h1, h2⟩ := h.s _ _ _ e; rw [← h2]; exact .osl h1
  | _, _, .omp (dep := dep) e => by
    cases dep with
    | zero => obtain ⟨h1, h2⟩ := h.z _ _ e; rw [← h2]; exact .omp h1
    | succ dep => obtain ⟨h1, h2⟩ := h.s _ _ _ e; rw [← h2]; exact .omp h1
  | _, _, .xsl r e k l => .xsl r e k l
  | _, _, .xnil => .xnil
  | _, _, .bt => .bt
  | _, _, .bf => .bf
  | _, _, .fn r s => .fn (RepDL.ren h r) (RepDL.ren h s)
theorem RepDL.ren (h : Ren p q ρ ρ' sh sh') : ∀ {v : List Value} {d : List D}, RepDL K ρ sh v d → RepDL K ρ' sh' v (D.rens p q d)
  | _, _, .nil => .nil
  | _, _, .cons r rs => .cons (RepD.ren h r) (RepDL.ren h rs)
end
end
def Ob.flat : Ob → Bool
  | .box cs => D.withins (fun _ => false) cs
  | .tb _ cs => D.withins (fun _ => false) cs
  | .arr _ _ _ _ _ => true
  | .mp _ _ => true
def renσ (a b : Nat) : List (Nat × D) → List (Nat × D)
  | [] => []
  | (t, d) :: r => (t, d.ren a b) :: renσ a b r
theorem look_renσ {a b t : Nat} : ∀ {l : List (Nat × D)}, look (renσ a b l) t = (look l t).map (D.ren a b)
  | [] => by simp [renσ, look]
  | (k, d) :: r => by
    simp only [renσ, look_cons, look_renσ]
    split <;> simp
theorem wk_rename (nm nm' : Nat) {ob : Ob} {O : List Heap} (hS : s.S = [(nm, ob)] :: O) (hfl : ob.flat = true) : Wk c s { σ := renσ nm nm' s.σ, S := [(nm', ob)] :: O, n := s.n } := by
  intro K ρ a w hi
  have hh := hi.h
  rw [hS] at hh
  have ho : objAt ([(nm, ob)] :: O) 0 nm = some ob := by simp [objAt, look_cons]
  let ρ' : Nat → Nat → Loc := upd ρ nm' (ρ 0 nm)
  have hmv : Moves (fun _ => false) K K ρ ρ' (shape ([(nm, ob)] :: O)) (shape ([(nm', ob)] :: O)) := by
    refine ⟨K.le_refl, fun _ _ h => (by cases h), fun d n x e => ⟨by simpa [shape, objAt] using e, upd_other _ _ _ (.inl (by omega))⟩⟩
  have hren : Ren nm nm' ρ ρ' (shape ([(nm, ob)] :: O)) (shape ([(nm', ob)] :: O)) := by
    refine ⟨fun n x e => ?_, hmv.s⟩
    by_cases hn : nm = n
    · subst hn
      have e1 : renN nm nm' nm = nm' := by simp [renN]
      rw [e1]
      refine ⟨?_, upd_same _ _ _⟩
      simpa [shape, objAt, look_cons] using e
    · simp [shape, objAt, look_cons, hn, look] at e
      exfalso
      obtain ⟨_, e, _⟩ := e
      have hb : Nat.beq nm n = false := by
        cases hb : Nat.beq nm n with
        | false => rfl
        | true => exact absurd (Nat.eq_of_beq_eq_true hb) hn
      rw [hb] at e; cases e
  have hcase : ∀ d n o, objAt ([(nm', ob)] :: O) d n = some o → (d = 0 ∧ n = nm' ∧ o = ob) ∨ ∃ d', d = d' + 1 ∧ objAt ([(nm, ob)] :: O) d n = some o := by
    intro d n o e
    cases d with
    | zero =>
      have e' : look [(nm', ob)] n = some o := by simpa [objAt] using e
      obtain ⟨rfl, rfl⟩ := look_one e'
      exact .inl ⟨rfl, rfl, rfl⟩
    | succ d => exact .inr ⟨d, rfl, by simpa [objAt] using e⟩
  have r1 : ∀ d n, ρ' (d + 1) n = ρ (d + 1) n := fun d n => upd_other _ _ _ (.inl (by omega))
  have r0 : ρ' 0 nm' = ρ 0 nm := upd_same _ _ _
  have e0 : ∀ f : Nat → Nat → Loc, (fun d n => f (0 + d) n) = f := by intro f; funext d n; rw [Nat.zero_add]
  refine ⟨K, ρ', ⟨hh.holds, ?_, ?_, hh.size, ?_, ?_, ?_, hh.Kle, hh.Knew, hh.rest⟩, hi.defers, hi.size, fun t d e => ?_⟩
  · intro d n o e
    rcases hcase d n o e with ⟨rfl, rfl, rfl⟩ | ⟨d', rfl, e'⟩
    · have h0 := hh.own 0 nm _ ho
      rw [e0] at h0 ⊢
      rw [r0]
      refine h0.move hmv ?_ (fun _ => rfl) (fun _ _ => rfl)
      cases o with
      | box cs => exact hfl
      | tb _ cs => exact hfl
      | arr => rfl
      | mp => rfl
    · have h0 := hh.own (d' + 1) n o e'
      have e1 : (fun d n => ρ' (d' + 1 + d) n) = fun d n => ρ (d' + 1 + d) n := by
        funext d n
        rw [show d' + 1 + d = (d' + d) + 1 by omega, r1]
      rw [e1, r1]
      simpa using h0
  · intro d n o d2 n2 o2 e e2 b b2 hbe
    rcases hcase d n o e with ⟨rfl, rfl, rfl⟩ | ⟨d', rfl, e'⟩ <;> rcases hcase d2 n2 o2 e2 with ⟨rfl, rfl, rfl⟩ | ⟨d2', rfl, e2'⟩
    · exact ⟨rfl, rfl⟩
    · rw [r0] at b hbe; rw [r1] at b2 hbe
      have := (hh.inj _ _ _ _ _ _ ho e2' b b2 hbe).1
      omega
    · rw [r1] at b hbe; rw [r0] at b2 hbe
      have := (hh.inj _ _ _ _ _ _ e' ho b b2 hbe).1
      omega
    · rw [r1] at b hbe; rw [r1] at b2 hbe
      exact hh.inj _ _ _ _ _ _ e' e2' b b2 hbe
  · intro b hb hno
    refine hh.old b hb fun d n o e hbk => ?_
    have := hno d n o (by simpa [objAt] using e) (by rw [r1]; exact hbk)
    rwa [r1] at this
  · intro n o e hb
    rcases hcase 0 n o e with ⟨_, rfl, rfl⟩ | ⟨_, h, _⟩
    · rw [r0] at hb ⊢; exact hh.loc _ _ ho hb
    · omega
  · intro d
    funext n
    rw [r1, hh.outer]
  · simp only [look_renσ] at e
    cases hl : look s.σ t with
    | none => simp [hl] at e
    | some d0 =>
      simp only [hl, Option.map_some, Option.some.injEq] at e
      subst e
      have := hi.slots _ _ hl
      rw [hS] at this
      exact this.ren hren
end
end Go.AI
