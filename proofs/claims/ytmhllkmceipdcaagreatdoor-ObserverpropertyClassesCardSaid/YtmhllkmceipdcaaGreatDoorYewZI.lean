/- The layer of abstract runs, part 35. -/
import Derived.Test.YtmhllkmceipdcaaGreatDoorYewZH
set_option linter.unusedSimpArgs false
set_option linter.unusedVariables false
set_option linter.all false

namespace Go.AI
section
variable {c : Cx} {s : St} {k : List Item} {ops : Array Oper} (hT : TOk c.P c.T) (hfn : c.P.funcs[c.f]? = some c.fn)
include hT hfn
theorem gcT {b : Bool} {x : Operand} {ct cf : Code} (hx : evD s x = .i (.v (.bool b))) (h : GM c (run c.T c.stop 1000 (.code ct :: k) s)) (hb : b = true := by first | rfl | decide) : GM c (.cnd b x ct cf s k) :=
  g_cnd hT hfn hx (fun _ => h) fun e => by rw [hb] at e; cases e
theorem gcF {b : Bool} {x : Operand} {ct cf : Code} (hx : evD s x = .i (.v (.bool b))) (h : GM c (run c.T c.stop 1000 (.code cf :: k) s)) (hb : b = false := by first | rfl | decide) : GM c (.cnd b x ct cf s k) :=
  g_cnd hT hfn hx (fun e => by rw [hb] at e; cases e) fun _ => h
theorem gkT {l : List Nat} {t : Nat} {b : Bool} (ht : s.get t = .i (.v (.bool b))) (h : GM c (run c.T c.stop 1000 (.inRegion ops l :: k) (setM s t .bt))) (hb : b = true := by first | rfl | decide) : GM c (.know ops l t b s k) :=
  g_know hT hfn ht (fun _ => h) fun e => by rw [hb] at e; cases e
theorem gkF {l : List Nat} {t : Nat} {b : Bool} (ht : s.get t = .i (.v (.bool b))) (h : GM c (run c.T c.stop 1000 (.inRegion ops l :: k) (setM s t .bf))) (hb : b = false := by first | rfl | decide) : GM c (.know ops l t b s k) :=
  g_know hT hfn ht (fun e => by rw [hb] at e; cases e) fun _ => h
end
section
variable {c : Cx} {ops : Array Oper} {O : List Heap} {n : Nat} {F : SH → List Pl → Prop} {o : Oper} {rest : List Oper} {x : SH} {acc : List Pl} {i : Nat} (hT : TOk c.P c.T)
include hT
theorem skT {b : Bool} {t : Nat} (h : GE c ops O n F (runS c.T ops O n (i + 1) rest (setX x t .bt) (acc ++ [.one t .bt]))) (hb : b = true := by first | rfl | decide) : GE c ops O n F (.know i b t o rest x acc) :=
  s_know hT (fun _ => h) fun e => by rw [hb] at e; cases e
theorem skF {b : Bool} {t : Nat} (h : GE c ops O n F (runS c.T ops O n (i + 1) rest (setX x t .bf) (acc ++ [.one t .bf]))) (hb : b = false := by first | rfl | decide) : GE c ops O n F (.know i b t o rest x acc) :=
  s_know hT (fun e => by rw [hb] at e; cases e) fun _ => h
end
end Go.AI
