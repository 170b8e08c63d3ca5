/- The layer of abstract runs, part 21. -/
import Derived.Test.YtmhllkmceipdcaaGreatDoorYewT
set_option linter.unusedSimpArgs false
set_option linter.unusedVariables false
set_option linter.all false

namespace Go.AI
def bkS (l : Loc) : Sh → Prop
  | .arr _ _ => l.base ≠ none
  | _ => True
theorem bkS_iff {l : Loc} {ob : Ob} : backed l ob ↔ bkS l ob.sh := by cases ob <;> exact Iff.rfl
def TabQ (g : Nat) (tab : Obj) (O : List Heap) (ρ : Nat → Nat → Loc) (w : World) : Prop :=
  w.heap[g]? = some tab ∧ ∀ d nm x, shape O d nm = some x → bkS (ρ d nm) x → (ρ d nm).block ≠ g
def TabE (g : Nat) (tab : Obj) (E : Env) (O : List Heap) : Prop := TabQ g tab O E.ρ0 E.w0 ∧ E.pr g
theorem tab_now {g : Nat} {tab : Obj} {E : Env} {O O' : List Heap} {K : Kn} {ρ : Nat → Nat → Loc} {H : Heap} {w : World} (h : TabE g tab E O) (hs : shape O' = shape O) (hi : HInv E K ρ (H :: O') w) : TabQ g tab (H :: O') ρ w := by
  obtain ⟨⟨h1, h2⟩, h3⟩ := h
  have hup : ∀ d nm ob, objAt (H :: O') (d + 1) nm = some ob → backed (ρ (d + 1) nm) ob → (ρ (d + 1) nm).block ≠ g := by
    intro d nm ob ho hb
    have hρ : ρ (d + 1) nm = E.ρ0 d nm := by rw [hi.outer]
    rw [hρ] at hb ⊢
    refine h2 d nm ob.sh ?_ (bkS_iff.1 hb)
    rw [← hs]
    have : objAt O' d nm = some ob := by simpa [objAt] using ho
    simp [shape, this]
  refine ⟨by rw [hi.old g h3 hup]; exact h1, fun d nm x hx hb => ?_⟩
  unfold shape at hx
  cases ho : objAt (H :: O') d nm with
  | none => simp [ho] at hx
  | some ob =>
    simp only [ho, Option.map_some, Option.some.injEq] at hx
    subst hx
    cases d with
    | zero => exact fun e => hi.loc nm ob ho (bkS_iff.2 hb) (by rw [e]; exact h3)
    | succ d => exact hup d nm ob ho (bkS_iff.2 hb)
structure EOk (E0 E : Env) (O : List Heap) : Prop where
  tb : ∀ g tab O0, shape O = shape O0 → TabE g tab E0 O0 → TabE g tab E O0
  kn : E0.K0.le E.K0
theorem eok_fr {E : Env} {K : Kn} {ρ : Nat → Nat → Loc} {HL : Heap} {O : List Heap} {w : World} (h : HInv E K ρ (HL :: O) w) (Hv : Heap) : EOk E (fr h Hv) O := by
  refine ⟨fun g tab O0 hO ht => ?_, h.Kle⟩
  exact ⟨⟨(tab_now ht hO h).1, ht.1.2⟩, .inl ht.2⟩
end Go.AI
