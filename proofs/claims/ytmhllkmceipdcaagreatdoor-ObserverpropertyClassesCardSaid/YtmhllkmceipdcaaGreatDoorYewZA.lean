/- The layer of abstract runs, part 27. -/
import Derived.Test.YtmhllkmceipdcaaGreatDoorYewZ
set_option linter.unusedSimpArgs false
set_option linter.unusedVariables false
set_option linter.all false

namespace Go.AI
section
variable {P : Program}
def FOk (P : Program) (fl : Field) (f : Nat × Nat × Bool) : Prop :=
  fl.offset = f.1 ∧ (∃ inf, P.info? fl.type = some inf ∧ inf.size = f.2.1) ∧ f.2.1 ≠ 0 ∧ ∀ w, (isAgg fl.type).run P w = .ok f.2.2 w
inductive FsOk (P : Program) : List Field → List (Nat × Nat × Bool) → Prop
  | nil : FsOk P [] []
  | cons {x f xs fs} : FOk P x f → FsOk P xs fs → FsOk P (x :: xs) (f :: fs)
theorem FsOk.get {xs : List Field} {fs : List (Nat × Nat × Bool)} (h : FsOk P xs fs) : ∀ {j : Nat} {f : Nat × Nat × Bool}, fs[j]? = some f → ∃ x, xs[j]? = some x ∧ FOk P x f := by
  induction h with
  | nil => intro j f e; simp at e
  | cons h1 h2 ih =>
    intro j f e
    cases j with
    | zero => simp at e; subst e; exact ⟨_, rfl, h1⟩
    | succ j => simpa using ih (by simpa using e)
theorem FsOk.mapM {xs : List Field} {fs : List (Nat × Nat × Bool)} (h : FsOk P xs fs) (w : World) :
    (xs.mapM fun f => do pure (f.offset, ← Go.sizeOf f.type) : Sem (List (Nat × Nat))).run P w = .ok (fs.map fun f => (f.1, f.2.1)) w := by
  induction h with
  | nil => simp
  | @cons x f xs fs h1 h2 ih =>
    obtain ⟨ho, ⟨inf, hi, hs⟩, _, _⟩ := h1
    have hone : (Go.sizeOf x.type).run P w = .ok inf.size w := by
      simp [Go.sizeOf, typeInfo, hi]
    rw [List.mapM_cons, Sem.run_bind, Sem.run_bind, hone]
    simp only [Result.andThen_ok, Sem.run_pure]
    rw [Sem.run_bind, ih]
    simp only [Result.andThen_ok, Sem.run_pure, List.map_cons, ho, hs]
theorem kind_struct {t : Nat} {fields : Array Field} {fs : List (Nat × Nat × Bool)} (hu : P.underlying t = some (.struct fields)) (h : FsOk P fields.toList fs) : TKok P t (.struct fs) := by
  refine ⟨fields, hu, fun w => ?_, fun j f e => ?_⟩
  · rw [Array.mapM_eq_mapM_toList]
    simp only [Sem.run_map, h.mapM w, Result.andThen_ok]
  · obtain ⟨x, hx, ho, ⟨inf, hi, hs⟩, hp, ha⟩ := h.get e
    exact ⟨x, inf, by simpa using hx, ho, hi, hs, hp, ha⟩
theorem tiok {t : Nat} {i : TI} {inf : TypeInfo} {z : Value} (h : P.info? t = some inf) (h1 : inf.size = i.size) (h2 : inf.bytes = i.bytes) (h3 : inf.zero = some z) (h4 : z.cells.toList = i.zero) (h5 : i.k.agg = false → i.zero = [z]) (hk : TKok P t i.k) (ho : ∀ x ∈ i.zero, x.oneCell' = true) (hl : i.zero.length = i.size) (hp : i.size ≠ 0) (hc : i.cmp = [] ∨ CmpOk P t i.cmp) : TIok P t i :=
  ⟨⟨inf, h, h1, h2, z, h3, h4, h5⟩, hk, ho, hl, hp, hc⟩
def AllOk (P : Program) : TT → Prop
  | [] => True
  | (t, i) :: r => TIok P t i ∧ AllOk P r
theorem tok_of : ∀ {T : TT}, AllOk P T → TOk P T
  | [], _, t, i, e => by simp [look] at e
  | (t', i') :: r, h, t, i, e => by
    rw [look_cons] at e
    split at e
    · rename_i hn
      subst hn
      simp only [Option.some.injEq] at e
      subst e
      exact h.1
    · exact tok_of h.2 t i e
end
end Go.AI
