/- The layer of abstract runs, part 34. -/
import Derived.Test.YtmhllkmceipdcaaGreatDoorYewZG
set_option linter.unusedSimpArgs false
set_option linter.unusedVariables false
set_option linter.all false

namespace Go.AI
structure GM (c : Cx) (m : MS) : Prop where
  h : MSx c m
section
variable {c : Cx} {s : St} {k : List Item} {ops : Array Oper} {rest : List Nat} {o : Oper}
theorem g_run (hT : TOk c.P c.T) (hfn : c.P.funcs[c.f]? = some c.fn) {todo : List Item} (h : GM c (run c.T c.stop 1000 todo s)) : Rch c todo s := rch_run hT hfn h.h
theorem g_loop {body : Code} (h : Rch c (.code body :: .inLoop body :: k) s) : GM c (.loop body s k) := ⟨h⟩
theorem g_stop {id : Nat} {draw : Bool} (h : Rch c (.code (.region id ops draw) :: k) s) : GM c (.stop id ops draw s k) := ⟨h⟩
theorem g_rwk {s' : St} (hw : Wk c s s') (h : GM c (.ret s')) : GM c (.ret s) := ⟨ret_wk hw h.h⟩
theorem g_ret (hT : TOk c.P c.T) {res d r : D} {Hr H : Heap} {O O' : List Heap} (hp : c.post = PostOf c.E res Hr O') (hd : resD c.T s c.fn.results.toList = some d) (hS : s.S = H :: O) (ht : takesB H Hr Hr) (hr : d.ret H Hr = r) (hO : O = O')
    (he : r = res) : GM c (.ret s) := ⟨m_ret' (hT := hT) hp hd hS ht hr hO he⟩
theorem g_ret_co (hT : TOk c.P c.T) {res d r : D} {Hr H : Heap} {O O' : List Heap} (hp : c.post = PostOf c.E res Hr O') (hd : resD c.T s c.fn.results.toList = some d) (hS : s.S = H :: O) (ht : takesB H Hr Hr) (hr : d.ret H Hr = r) (hO : O = O')
    (he : CoD r res) : GM c (.ret s) := ⟨m_ret_co (hT := hT) hp hd hS ht hr hO he⟩
variable (hT : TOk c.P c.T) (hfn : c.P.funcs[c.f]? = some c.fn)
include hT hfn
theorem g_go {id : Nat} {draw : Bool} (h : GM c (bif draw then .drawn id ops s k else run c.T c.stop 1000 (.inRegion ops (List.range ops.size) :: k) s)) : GM c (.stop id ops draw s k) := ⟨m_go hT hfn h.h⟩
theorem g_pause {i : Nat} {s' : St} (ho : ops[i]? = some o) (hg : o.guard = none) (hw : Wk c s s') (h : GM c (cont c.T c.stop ops rest s' o (exec c.T s' o) k)) : GM c (.pause ops i rest o s k) := ⟨m_pause hT hfn ho hg hw h.h⟩
theorem g_need {p : Prop} {a : Ask} (hp : p) (h : GM c (cont c.T c.stop ops rest s o a k)) : GM c (.at ops rest s o (.need p a) k) := ⟨m_need hT hfn hp h.h⟩
theorem g_elem {xs : List (List I)} {i : Nat} {g : List I → Ask} {d : List I} (hd : xs[i]? = some d) (h : GM c (cont c.T c.stop ops rest s o (g d) k)) : GM c (.at ops rest s o (.elem xs i g) k) := ⟨m_elem hT hfn hd h.h⟩
theorem g_obj {dep nm : Nat} {g : Ob → Ask} {ob : Ob} (hd : objAt s.S dep nm = some ob) (h : GM c (cont c.T c.stop ops rest s o (g ob) k)) : GM c (.at ops rest s o (.obj dep nm g) k) := ⟨m_obj hT hfn hd h.h⟩
theorem g_call {f : FuncId} {args : List D} {res : D} {Hr H' : Heap} {O' : List Heap} {t : Nat} (hspec : ASpec c.P f (D.imms (headH s.S) args) s.S res Hr (H' :: O')) (ht : o.dst = some t) (hn : Nat.ble (t + 1) s.n = true)
    (hne : isCons s.S = true) (hsh : shape (H' :: O') = shape s.S) (hf : freshB Hr H' = true) (h : GM c (run c.T c.stop 1000 (.inRegion ops rest :: k) (stepS s t res.down ((downH Hr ++ H') :: O')))) : GM c (.at ops rest s o (.call f args) k) :=
  ⟨m_call hT hfn hspec ht hn hne hsh hf h.h⟩
theorem g_know {l : List Nat} {t : Nat} {b : Bool} (ht : s.get t = .i (.v (.bool b))) (h1 : b = true → GM c (run c.T c.stop 1000 (.inRegion ops l :: k) (setM s t .bt))) (h2 : b = false → GM c (run c.T c.stop 1000 (.inRegion ops l :: k) (setM s t .bf))) :
    GM c (.know ops l t b s k) := ⟨m_know hT hfn ht (fun e => (h1 e).h) (fun e => (h2 e).h)⟩
theorem g_cnd {b : Bool} {x : Operand} {ct cf : Code} (hx : evD s x = .i (.v (.bool b))) (h1 : b = true → GM c (run c.T c.stop 1000 (.code ct :: k) s)) (h2 : b = false → GM c (run c.T c.stop 1000 (.code cf :: k) s)) : GM c (.cnd b x ct cf s k) :=
  ⟨m_cnd hT hfn hx (fun e => (h1 e).h) (fun e => (h2 e).h)⟩
theorem g_drawn {id : Nat} {O : List Heap} (hm : c.P.follows .mixedOrders = true) {H : Heap} (hS : s.S = H :: O) (h : GE c ops O s.n (FD c ops O s.n (s.σ, H) k) (runS c.T ops O s.n 0 ops.toList (s.σ, H) [])) :
    GM c (.drawn id ops s k) := ⟨m_drawnS hT hm hS h⟩
theorem e_done {O : List Heap} {n : Nat} {x : SH} {acc : List Pl} {x0 : SH} (hok : okD ops acc x0 = true) (h : GM c (run c.T c.stop 1000 k (St.of O n x))) : GE c ops O n (FD c ops O n x0 k) (.done x acc) := s_done hT hfn hok h.h
theorem e_tail {i : Nat} {o : Oper} {rest : List Oper} {O : List Heap} {n : Nat} {x : SH} {acc : List Pl} {x0 : SH} (l : List Nat) (hok : okT ops acc x0 = true) (hl : List.range' acc.length (ops.size - acc.length) = l) (h : GM c (forceX x fun x => run c.T c.stop 1000 (.inRegion ops l :: k) (St.of O n x))) : GE c ops O n (FD c ops O n x0 k) (.old i o rest x acc) := s_tail hT hfn l hok hl h.h
end
end Go.AI
