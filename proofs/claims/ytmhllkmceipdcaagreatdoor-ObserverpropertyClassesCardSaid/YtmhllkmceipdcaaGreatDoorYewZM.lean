/- The layer of abstract runs, part 39. -/
import Derived.Test.YtmhllkmceipdcaaGreatDoorYewZL
set_option linter.unusedSimpArgs false
set_option linter.unusedVariables false
set_option linter.all false

namespace Go.AI
theorem rch_meet {c : Cx} {todo : List Item} {s : St} {l : List (Nat × D)} {H Hv : Heap} {O : List Heap} {n : Nat} (h : Rch c todo { σ := l, S := Hv :: O, n := n }) (hs : Sub s l) (hS : s.S = H :: O) (hH : SubH H Hv) (hok : okCut l Hv = true) (hn : s.n = n) : Rch c todo s := rch_cut2 hs hS hH hok hn h
theorem join_p {c : Cx} {todo : List Item} {s6 : St} {G P : Prop} (h1 : (P → Rch c todo s6) → G) (h2 : P → Rch c todo s6) : G := h1 h2
theorem join_q {c : Cx} {todo : List Item} {G : Prop} {α : Type} {P : α → Prop} {s6 : α → St} (h1 : (∀ a, P a → Rch c todo (s6 a)) → G) (h2 : ∀ a, P a → Rch c todo (s6 a)) : G := h1 h2
theorem beqT {a b : Int} (h : (a == b) = true) : a = b := by simpa using h
theorem beqF {a b : Int} (h : (a == b) = false) : a ≠ b := by simpa using h
theorem bneT {a b : Int} (h : (a != b) = true) : a ≠ b := by simpa using h
theorem bneF {a b : Int} (h : (a != b) = false) : a = b := by simpa using h
theorem notT {b : Bool} (h : (!b) = true) : b = false := by simpa using h
theorem notF {b : Bool} (h : (!b) = false) : b = true := by simpa using h
theorem up_obj {H : Heap} {S : List Heap} {d nm : Nat} {o : Ob} (h : objAt S d nm = some o) : objAt (H :: S) (d + 1) nm = some o := h
end Go.AI
