/- The layer of abstract runs, part 28. -/
import Derived.Test.YtmhllkmceipdcaaGreatDoorYewZA
import Derived.IntWalk
set_option linter.unusedSimpArgs false
set_option linter.unusedVariables false
set_option linter.all false

namespace Go.AI
section
variable {c : Cx}
theorem rch_loop_ind {α : Type} {todo : List Item} {s : St} (L : α → List (Nat × D)) (S : α → List Heap) (n : Nat) (I : α → Prop) (m : α → Nat) (x0 : α) (hI : I x0) (hs : Sub s (L x0)) (hS : s.S = S x0) (hn : s.n = n)
    (step : ∀ x, I x → (∀ y s', I y → m y < m x → Sub s' (L y) → s'.S = S y → s'.n = n → Rch c todo s') → Rch c todo { σ := L x, S := S x, n := n }) : Rch c todo s := by
  have key : ∀ N x s, m x ≤ N → I x → Sub s (L x) → s.S = S x → s.n = n → Rch c todo s := by
    intro N
    induction N with
    | zero =>
      intro x s hm hI hs hS hn
      refine rch_cut (l := L x) ?_ hs
      rw [hS, hn]
      exact step x hI fun y s' _ hlt => by omega
    | succ N ih =>
      intro x s hm hI hs hS hn
      refine rch_cut (l := L x) ?_ hs
      rw [hS, hn]
      exact step x hI fun y s' hy hlt => ih y s' (by omega) hy
  exact key _ x0 s (Nat.le_refl _) hI hs hS hn
theorem m_ret' {hT : TOk c.P c.T} {s : St} {res d r : D} {Hr H : Heap} {O O' : List Heap} (hp : c.post = PostOf c.E res Hr O') (hd : resD c.T s c.fn.results.toList = some d) (hS : s.S = H :: O) (ht : takesB H Hr Hr) (hr : d.ret H Hr = r) (hO : O = O')
    (he : r = res) : MSx c (.ret s) := m_ret hT hd hS ht (hr.trans he) hO hp
end
abbrev ii (n : Int) : D := .i (.v (.int .i64 n))
abbrev bb (b : Bool) : D := .i (.v (.bool b))
abbrev vi (n : Int) : I := .v (.int .i64 n)
abbrev intsI (l : List Int) : I := .sl 1 l.length (l.map fun x => [vi x])
abbrev ints (l : List Int) : D := .i (intsI l)
abbrev max63 : Nat := 9223372036854775807
theorem get_mapZ {α β : Type} {f : α → β} {l : List α} {i : Nat} (h : i < l.length) : (l.map f)[(i : Int).toNat]? = some (f l[i]) := by simp [h]
theorem w64 {n : Int} (h1 : -9223372036854775808 ≤ n) (h2 : n ≤ 9223372036854775807) : IntKind.i64.wrap n = n := IntWalk.i64_in n ⟨h1, h2⟩
theorem wsucc {i n : Nat} (h : i < n) (hn : n ≤ max63) : IntKind.i64.wrap ((i : Int) + 1) = ((i + 1 : Nat) : Int) := by
  simp only [max63] at hn
  rw [w64 (by omega) (by omega)]
  rfl
end Go.AI
