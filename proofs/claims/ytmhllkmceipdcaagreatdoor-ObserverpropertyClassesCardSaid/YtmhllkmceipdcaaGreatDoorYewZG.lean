/- The layer of abstract runs, part 33. -/
import Derived.Test.YtmhllkmceipdcaaGreatDoorYewZF
set_option linter.unusedSimpArgs false
set_option linter.unusedVariables false
set_option linter.all false

namespace Go.AI
theorem shape_of_objAt {S S' : List Heap} (h : objAt S' = objAt S) : shape S' = shape S := by
  funext d n
  simp only [shape, h]
theorem HInv.sameS {E : Env} {K : Kn} {ρ : Nat → Nat → Loc} {S S' : List Heap} {w : World} (hi : HInv E K ρ S w) (h : ∀ d n, objAt S' d n = objAt S d n) : HInv E K ρ S' w := by
  have e : objAt S' = objAt S := by funext d n; exact h d n
  have e2 := shape_of_objAt e
  refine ⟨hi.holds, fun d nm ob h1 => ?_, fun d nm ob d' nm' ob' h1 h2 => ?_, hi.size, fun b hb hno => hi.old b hb ?_, fun nm ob h1 => ?_, hi.outer, hi.Kle, hi.Knew, hi.rest⟩
  · rw [e] at h1
    have h2 := hi.own _ _ _ h1
    have e3 : shape (S'.drop d) = shape (S.drop d) := by
      funext d' n'
      rw [shape_drop, shape_drop, e2]
    rw [e3]; exact h2
  · rw [e] at h1 h2
    exact hi.inj _ _ _ _ _ _ h1 h2
  · intro d nm ob h1
    exact hno d nm ob (by rw [e]; exact h1)
  · rw [e] at h1; exact hi.loc _ _ h1
theorem wk_S {c : Cx} {s : St} {S' : List Heap} (h : ∀ d n, objAt S' d n = objAt s.S d n) : Wk c s { σ := s.σ, S := S', n := s.n } := by
  intro K ρ a w hi
  refine ⟨K, ρ, hi.h.sameS h, hi.defers, hi.size, fun t d e => ?_⟩
  have e2 : shape S' = shape s.S := shape_of_objAt (by funext d n; exact h d n)
  show RepD K ρ (shape S') _ _
  rw [e2]
  exact hi.slots t d e
end Go.AI
