/- The layer of abstract runs, part 31. -/
import Derived.Test.YtmhllkmceipdcaaGreatDoorYewZD
set_option linter.unusedSimpArgs false
set_option linter.unusedVariables false
set_option linter.all false

namespace Go.AI
def Ob.imm (H : Heap) : Ob → Ob
  | .box cs => .box (D.imms H cs)
  | .tb T cs => .tb T (D.imms H cs)
  | o => o
def immH (H0 : Heap) : Heap → Heap
  | [] => []
  | (n, o) :: r => (n, o.imm H0) :: immH H0 r
theorem look_immH {H0 : Heap} : ∀ {H : Heap} {n : Nat}, look (immH H0 H) n = (look H n).map (Ob.imm H0)
  | [], n => by simp [immH, look]
  | (k, o) :: r, n => by
    simp only [immH, look_cons, look_immH]
    split <;> simp
theorem Ob.imm_sh (H : Heap) (o : Ob) : (o.imm H).sh = o.sh := by cases o <;> rfl
theorem Ob.imm_backed (H : Heap) (l : Loc) (o : Ob) : backed l (o.imm H) ↔ backed l o := by cases o <;> exact Iff.rfl
section
variable {c : Cx} {s : St}
theorem wk_imm {H : Heap} {O : List Heap} (hS : s.S = H :: O) : Wk c s { σ := s.σ, S := immH H H :: O, n := s.n } := by
  intro K ρ a w hi
  have hh := hi.h
  rw [hS] at hh
  have hsh : shape (immH H H :: O) = shape (H :: O) := by
    funext d n
    cases d with
    | zero =>
      simp only [shape, objAt, List.getElem?_cons_zero, look_immH]
      cases look H n <;> simp [Ob.imm_sh]
    | succ d => simp [shape, objAt]
  have hcase : ∀ d n o, objAt (immH H H :: O) d n = some o → ∃ o0, objAt (H :: O) d n = some o0 ∧ (o = o0 ∨ (d = 0 ∧ o = o0.imm H)) ∧ (∀ l, backed l o ↔ backed l o0) := by
    intro d n o e
    cases d with
    | zero =>
      have e' : look (immH H H) n = some o := by simpa [objAt] using e
      rw [look_immH] at e'
      cases hl : look H n with
      | none => simp [hl] at e'
      | some o0 =>
        simp only [hl, Option.map_some, Option.some.injEq] at e'
        subst e'
        exact ⟨o0, by simpa [objAt] using hl, .inr ⟨rfl, rfl⟩, fun l => Ob.imm_backed _ _ _⟩
    | succ d => exact ⟨o, by simpa [objAt] using e, .inl rfl, fun _ => Iff.rfl⟩
  refine ⟨K, ρ, ⟨hh.holds, ?_, ?_, hh.size, ?_, ?_, hh.outer, hh.Kle, hh.Knew, hh.rest⟩, hi.defers, hi.size, fun t d e => ?_⟩
  · intro d n o e
    obtain ⟨o0, e0, h1, _⟩ := hcase d n o e
    have h0 := hh.own _ _ _ e0
    have hdr : shape ((immH H H :: O).drop d) = shape ((H :: O).drop d) := by
      cases d with
      | zero => exact hsh
      | succ d => rfl
    rw [hdr]
    rcases h1 with rfl | ⟨rfl, rfl⟩
    · exact h0
    · cases o0 with
      | mp => exact h0
      | arr => exact h0
      | box cs =>
        obtain ⟨cl, T, a1, a2, a3⟩ := h0
        have e2 : (fun d n => ρ (0 + d) n) = ρ := by funext d n; rw [Nat.zero_add]
        rw [e2] at a2 ⊢
        exact ⟨cl, T, a1, RepDL.imm hh a2, a3⟩
      | tb T cs =>
        obtain ⟨cl, a1, a2, a3⟩ := h0
        have e2 : (fun d n => ρ (0 + d) n) = ρ := by funext d n; rw [Nat.zero_add]
        rw [e2] at a2 ⊢
        exact ⟨cl, a1, RepDL.imm hh a2, a3⟩
  · intro d n o d' n' o' e e' b b' hbe
    obtain ⟨o1, e1, _, h1⟩ := hcase d n o e
    obtain ⟨o2, e2, _, h2⟩ := hcase d' n' o' e'
    exact hh.inj _ _ _ _ _ _ e1 e2 ((h1 _).1 b) ((h2 _).1 b') hbe
  · intro b hb hno
    exact hh.old b hb fun d n o e => hno d n o (by simpa [objAt] using e)
  · intro n o e hb
    obtain ⟨o1, e1, _, h1⟩ := hcase 0 n o e
    exact hh.loc _ _ e1 ((h1 _).1 hb)
  · rw [hsh]
    have := hi.slots _ _ e
    rw [hS] at this
    exact this
end
end Go.AI
