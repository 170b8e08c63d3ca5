/- The layer of abstract runs, part 37. -/
import Derived.Test.YtmhllkmceipdcaaGreatDoorYewZJ
import Derived.Sort.Grow
import Derived.Deep.Draws
set_option linter.unusedSimpArgs false
set_option linter.unusedVariables false
set_option linter.all false

namespace Go.AI
def ASpecT (g : Nat) (tab : Obj) (P : Program) (f : FuncId) (args : List D) (O : List Heap) (res : D) (Hr : Heap) (O' : List Heap) : Prop :=
  ∀ E K ρ w vs, HInv E K ρ O w → TabQ g tab O ρ w → RepDL K ρ (shape O) vs args →
    Exec P f vs.toArray w fun v w' => ∃ K' ρ', HInv (.of K ρ w) K' ρ' (Hr :: O') w' ∧ RepD K' ρ' (shape (Hr :: O')) v res
theorem ASpec.tab {g : Nat} {tab : Obj} {P : Program} {f : FuncId} {args : List D} {O O' : List Heap} {res : D} {Hr : Heap} (h : ASpec P f args O res Hr O') : ASpecT g tab P f args O res Hr O' := fun E K ρ w vs hi _ hr => h E K ρ w vs hi hr
section
variable {P : Program} {T : TT} {f : FuncId} {fn : Func} {code : Code}
theorem hinv_enter {E : Env} {K : Kn} {ρ : Nat → Nat → Loc} {O : List Heap} {w : World} (hw : HInv E K ρ O w) : ∃ ρ1 : Nat → Nat → Loc, (∀ d, ρ1 (d + 1) = ρ d) ∧ HInv (.of K ρ w) K ρ1 ([] :: O) w := by
  let ρ1 : Nat → Nat → Loc := fun d n => match d with
    | 0 => ⟨0, 0, none⟩
    | d + 1 => ρ d n
  refine ⟨ρ1, fun d => rfl, hw.holds, ?_, ?_, Nat.le_refl _, fun _ _ _ => rfl, ?_, fun d => rfl, K.le_refl, fun _ _ _ h => .inl h, ⟨rfl, rfl, rfl⟩⟩
  · intro d nm ob e
    cases d with
    | zero => simp [objAt, look] at e
    | succ d =>
      have e' : objAt O d nm = some ob := by simpa [objAt] using e
      have := hw.own _ _ _ e'
      have e1 : (fun d' n => ρ1 (d + 1 + d') n) = fun d' n => ρ (d + d') n := by
        funext d' n
        rw [show d + 1 + d' = (d + d') + 1 by omega]
      rw [e1]
      simpa using this
  · intro d nm ob d' nm' ob' e e' b b' hbe
    cases d with
    | zero => simp [objAt, look] at e
    | succ d =>
      cases d' with
      | zero => simp [objAt, look] at e'
      | succ d' =>
        have := hw.inj d nm ob d' nm' ob' (by simpa [objAt] using e) (by simpa [objAt] using e') b b' hbe
        exact ⟨by omega, this.2⟩
  · intro nm ob e _
    simp [objAt, look] at e
theorem aspecT_stop {g : Nat} {tab : Obj} (stop : List Nat) (hT : TOk P T) (hf : P.funcs[f]? = some fn) (hb : fn.body = some code) (hcall : ∀ args w, (callFunc f args).run P w = .ok (.enter f args) w) {args : List D} {O O' : List Heap} {res : D} {Hr : Heap} {n : Nat}
    (hn : fn.ntmps = n) (hlen : args.length ≤ n)
    (h : ∀ E, TabE g tab E O → Rch { P := P, T := T, E := E, f := f, fn := fn, post := PostOf E res Hr O', stop := stop } [.code code] { σ := argσ 0 (D.shifts 1 args), S := [] :: O, n := n }) : ASpecT g tab P f args O res Hr O' := by
  intro E K ρ w vs hw htab hrep
  refine .inl ⟨hcall _ _, fun cs => ?_⟩
  obtain ⟨ρ1, hρ1, hI⟩ := hinv_enter hw
  have hvl := hrep.length
  let b : Frame := { (default : Frame) with fn := f, kind := .normal }
  have henter : Frame.enter P f vs.toArray .normal = b.at { tmps := vs.toArray ++ Array.replicate (fn.ntmps - vs.toArray.size) undef, defers := [] } [.code code] := by
    simp [Frame.enter, Frame.at, hf, hb, b]
  have hinv : Inv (.of K ρ w) K ρ1 { σ := argσ 0 (D.shifts 1 args), S := [] :: O, n := n } { tmps := vs.toArray ++ Array.replicate (fn.ntmps - vs.toArray.size) undef, defers := [] } w := by
    refine ⟨hI, rfl, by simp; omega, fun t d e => ?_⟩
    rw [look_argσ] at e
    simp only [Nat.zero_le, if_true, Nat.sub_zero] at e
    have hsh : RepDL K ρ1 (shape ([] :: O)) vs (D.shifts 1 args) := by
      refine RepDL.shift (ρ := ρ1) (sh := shape ([] :: O)) 1 ?_
      have e1 : (fun d n => ρ1 (1 + d) n) = ρ := by funext d n; rw [Nat.add_comm, hρ1]
      have e2 : (fun d n => shape ([] :: O) (1 + d) n) = shape O := by
        funext d n
        rw [Nat.add_comm]
        simp [shape, objAt]
      rw [e1, e2]
      exact hrep
    obtain ⟨y, hy, hr⟩ := hsh.get e
    have : (vs.toArray ++ Array.replicate (fn.ntmps - vs.toArray.size) undef).getD t undef = y := by
      have hlt : t < vs.length := (List.getElem?_eq_some_iff.1 hy).1
      simp only [Array.getD_eq_getD_getElem?]
      rw [Array.getElem?_append_left (by simpa using hlt)]
      simp [hy]
    rw [this]
    exact hr
  have hlt : g < w.heap.size := (Array.getElem?_eq_some_iff.1 htab.1).1
  obtain ⟨v, w', fr, hp, hst, hfr, hlv⟩ := h (.of K ρ w) ⟨htab, hlt⟩ K ρ1 _ w b cs hinv rfl rfl
  rw [← henter] at hst
  exact ⟨.returned v, w', fr, ⟨v, rfl, hp⟩, hst, hfr, hlv⟩
end
theorem does_callT {g : Nat} {tab : Obj} {c : Cx} {s : St} {o : Oper} {Q : St → Prop} {f : FuncId} {args : List D} {res : D} {Hr H' : Heap} {O0 O' : List Heap} {t : Nat} (htab : TabE g tab c.E O0)
    (hspec : ASpecT g tab c.P f (D.imms (headH s.S) args) s.S res Hr (H' :: O')) (ht : o.dst = some t) (hn : t < s.n) {H : Heap} {O : List Heap} (hS : s.S = H :: O) (hO : shape O = shape O0) (hsh : shape (H' :: O') = shape s.S) (hf : ∀ nm, look Hr nm ≠ none → look H' nm = none)
    (hq : Q { σ := (t, res.down) :: s.σ, S := (downH Hr ++ H') :: O', n := s.n }) : Does c o s Q (.call f args) := by
  intro K ρ a w hi ⟨vs, hrun, hrep⟩ next Qe hnext
  have hh := hi.h
  have hrep' := RepDL.imm hh hrep
  rw [hS] at hspec hsh hh hrep'
  have fin : ∀ v w', (∃ K' ρ', HInv (.of K ρ w) K' ρ' (Hr :: H' :: O') w' ∧ RepD K' ρ' (shape (Hr :: H' :: O')) v res) → next (a.put o.dst v) w' := by
    intro v w' ⟨K', ρ', h1, h2⟩
    obtain ⟨ρ'', hI, hst, hdn⟩ := hh.back h1 hsh hf
    refine hnext _ _ _ _ _ hst.le (fun d n x _ e => ⟨hst.shp _ _ _ (by rw [hS] at e; exact e), hst.loc _ _ _ (by rw [hS] at e; exact e)⟩) ?_ hq
    rw [ht]
    refine inv_set hi hn hI ?_ (h2.down hdn)
    rw [hS]; exact hst
  rcases hspec c.E K ρ w vs hh (tab_now htab hO hh) hrep' with ⟨h1, h2⟩ | ⟨v, w', h1, h2⟩
  · rw [h1] at hrun
    simp only [Oper.wp, hrun, Oper.upon]
    refine h2.mono ?_
    rintro e w' ⟨v, rfl, hR⟩
    exact fin v w' hR
  · rw [h1] at hrun
    simp only [Oper.wp, hrun, Oper.upon]
    exact fin v w' h2
section
variable {c : Cx} {s : St} {k : List Item} {ops : Array Oper} {rest : List Nat} {o : Oper} {g : Nat} {tab : Obj}
theorem g_callT (hT : TOk c.P c.T) (hfn : c.P.funcs[c.f]? = some c.fn) {O0 : List Heap} (htab : TabE g tab c.E O0) {f : FuncId} {args : List D} {res : D} {Hr H' : Heap} {O' : List Heap} {t : Nat} (hspec : ASpecT g tab c.P f (D.imms (headH s.S) args) s.S res Hr (H' :: O')) (ht : o.dst = some t) (hn : Nat.ble (t + 1) s.n = true)
    {H : Heap} {O : List Heap} (hS : s.S = H :: O) (hO : shape O = shape O0) (hsh : shape (H' :: O') = shape s.S) (hf : freshB Hr H' = true) (h : GM c (run c.T c.stop 1000 (.inRegion ops rest :: k) (stepS s t res.down ((downH Hr ++ H') :: O')))) : GM c (.at ops rest s o (.call f args) k) :=
  ⟨does_callT htab hspec ht (Nat.le_of_ble_eq_true hn) hS hO hsh (freshB_ok hf) (by have h' := h.h; rw [stepS_eq] at h'; exact run_sound hT hfn 1000 (.inRegion ops rest :: k) _ h')⟩
end
section
variable {c : Cx} {ops : Array Oper} {O : List Heap} {n : Nat} {F : SH → List Pl → Prop} {o : Oper} {rest : List Oper} {x : SH} {acc : List Pl} {i : Nat} {g : Nat} {tab : Obj}
theorem s_callT (hT : TOk c.P c.T) {O0 : List Heap} (htab : TabE g tab c.E O0) {f : FuncId} {args : List D} {res : D} {Hr : Heap} {t : Nat} (hspec : ASpecT g tab c.P f (D.imms (viewOf ops o x).2 args) ((viewOf ops o x).2 :: O) res Hr ((viewOf ops o x).2 :: O)) (ht : o.dst = some t) (hn : Nat.ble (t + 1) n = true)
    (hO : shape O = shape O0) (hf : freshB Hr x.2 = true) (h : GE c ops O n F (runS c.T ops O n (i + 1) rest (newX x t res.down (downH Hr)) (acc ++ [⟨[(t, res.down)], downH Hr, none⟩]))) :
    GE c ops O n F (.at i o rest x acc (.call f args)) := by
  refine ⟨fun hro => ⟨⟨[(t, res.down)], downH Hr, none⟩, (gone_ro hro).symm, fun E hE => ?_, runS_sound hT rest _ _ _ h.h⟩⟩
  refine does_callT (c := { c with E := E }) (s := vw ops O n o x) (H' := (viewOf ops o x).2) (O' := O) (H := (viewOf ops o x).2) (O := O) (hE.tb g tab O0 hO htab) hspec ht (Nat.le_of_ble_eq_true hn) rfl hO rfl (freshB_ok (freshB_of view_sub hf)) ⟨rfl, rfl, fun t' d' e => ?_⟩
  obtain ⟨rfl, rfl⟩ := look_one e
  exact .inr (.inl (by simp [look_cons]))
end
theorem grow_more {E : Env} {K : Kn} {ρ : Nat → Nat → Loc} {S : List Heap} {w : World} (hw : HInv E K ρ S w) (n : Nat) (os : Array Obj) : Grow K ρ S w [] K ρ (Sort.grow (w.drewN n) os) := by
  have hold : ∀ b, b < w.heap.size → (Sort.grow (w.drewN n) os).heap[b]? = w.heap[b]? := by
    intro b hb
    show (w.heap ++ os)[b]? = w.heap[b]?
    rw [Array.getElem?_append_left hb]
  refine ⟨K.le_refl, fun _ _ _ h => .inl h, by show _ ≤ (w.heap ++ os).size; simp, hold, ⟨rfl, rfl, rfl⟩, fun _ _ _ => rfl, fun b o x hx => ?_, fun _ _ h => by simp [look] at h, fun _ _ _ _ h => by simp [look] at h⟩
  have h1 := hw.holds _ _ _ hx
  have hb : b < w.heap.size := by
    rcases Nat.lt_or_ge b w.heap.size with h | h
    · exact h
    · rw [hw.K_fresh h] at hx; cases hx
  rw [World.cell?, hold b hb]
  exact h1
end Go.AI
