/- The layer of abstract runs, part 4. -/
import Derived.Test.YtbknncolmohdlaaDoorLayerC
set_option linter.unusedSimpArgs false
set_option linter.unusedVariables false
set_option linter.all false
/- A call, by its contract. -/
namespace Go.AI

/- What a callee hands over, as the caller sees it. -/
mutual
def D.down : D → D
  | .own 0 nm j off => .own 0 nm j off
  | .own (dep + 1) nm j off => .own dep nm j off
  | .osl 0 nm => .osl 0 nm
  | .osl (dep + 1) nm => .osl dep nm
  | .fn f a b => .fn f (D.downs a) (D.downs b)
  | .agg cs => .agg (D.downs cs)
  | .tup cs => .tup (D.downs cs)
  | d => d
def D.downs : List D → List D
  | [] => []
  | d :: r => d.down :: D.downs r
end
def Ob.down : Ob → Ob
  | .box cs => .box (D.downs cs)
  | o => o
def downH : Heap → Heap
  | [] => []
  | (n, o) :: r => (n, o.down) :: downH r
theorem look_downH : ∀ (H : Heap) (n : Nat), look (downH H) n = (look H n).map Ob.down
  | [], n => by simp [downH, look]
  | (k, o) :: r, n => by simp only [downH, look_cons, look_downH r n]; split <;> simp
theorem Ob.down_sh (o : Ob) : o.down.sh = o.sh := by cases o <;> rfl
theorem backed_down (l : Loc) (o : Ob) : backed l o.down ↔ backed l o := by cases o <;> rfl
theorem backed_sh {l : Loc} {o o' : Ob} (h : o.sh = o'.sh) : backed l o ↔ backed l o' := by
  cases o <;> cases o' <;> simp_all [Ob.sh, backed]

section
variable {K : Kn} {ρ ρ' : Nat → Nat → Loc} {sh sh' : Nat → Nat → Option Sh}
/-- How references go down a frame. -/
structure Dn (ρ ρ' : Nat → Nat → Loc) (sh sh' : Nat → Nat → Option Sh) : Prop where
  z : ∀ n x, sh 0 n = some x → sh' 0 n = some x ∧ ρ' 0 n = ρ 0 n
  s : ∀ d n x, sh (d + 1) n = some x → sh' d n = some x ∧ ρ' d n = ρ (d + 1) n
mutual
theorem RepD.down (h : Dn ρ ρ' sh sh') : ∀ {v : Value} {d : D}, RepD K ρ sh v d → RepD K ρ' sh' v d.down
  | _, _, .dead x => .dead x
  | _, _, .i r => .i r
  | _, _, .agg r => .agg (RepDL.down h r)
  | _, _, .tup r => .tup (RepDL.down h r)
  | _, _, .box (dep := dep) e => by
    cases dep with
    | zero => obtain ⟨h1, h2⟩ := h.z _ _ e; rw [← h2]; exact .box h1
    | succ dep => obtain ⟨h1, h2⟩ := h.s _ _ _ e; rw [← h2]; exact .box h1
  | _, _, .arr (dep := dep) e l => by
    cases dep with
    | zero => obtain ⟨h1, h2⟩ := h.z _ _ e; rw [← h2]; exact .arr h1 l
    | succ dep => obtain ⟨h1, h2⟩ := h.s _ _ _ e; rw [← h2]; exact .arr h1 l
  | _, _, .osl (dep := dep) e => by
    cases dep with
    | zero => obtain ⟨h1, h2⟩ := h.z _ _ e; rw [← h2]; exact .osl h1
    | succ dep => obtain ⟨h1, h2⟩ := h.s _ _ _ e; rw [← h2]; exact .osl h1
  | _, _, .omp (dep := dep) e => by
    cases dep with
    | zero => obtain ⟨h1, h2⟩ := h.z _ _ e; rw [← h2]; exact .omp h1
    | succ dep => obtain ⟨h1, h2⟩ := h.s _ _ _ e; rw [← h2]; exact .omp h1
  | _, _, .xsl r e k l => .xsl r e k l
  | _, _, .xnil => .xnil
  | _, _, .bt => .bt
  | _, _, .bf => .bf
  | _, _, .fn r s => .fn (RepDL.down h r) (RepDL.down h s)
theorem RepDL.down (h : Dn ρ ρ' sh sh') : ∀ {v : List Value} {d : List D}, RepDL K ρ sh v d → RepDL K ρ' sh' v (D.downs d)
  | _, _, .nil => .nil
  | _, _, .cons r rs => .cons (RepD.down h r) (RepDL.down h rs)
end
theorem OwnAt.down {w : World} {l : Loc} {ob : Ob} (h : OwnAt K ρ sh w l ob) (hd : Dn ρ ρ' sh sh') : OwnAt K ρ' sh' w l ob.down := by
  cases ob with
  | mp kk m => exact h
  | box cs =>
    obtain ⟨c, T, h1, h2, h3⟩ := h
    exact ⟨c, T, h1, h2.down hd, h3⟩
  | arr ty es n xs wr => exact h
end

theorem HInv.back {E : Env} {K K' : Kn} {ρ ρ' : Nat → Nat → Loc} {H H' Hr : Heap} {O O' : List Heap} {w w' : World} (h : HInv E K ρ (H :: O) w) (h' : HInv (.of K ρ w) K' ρ' (Hr :: H' :: O') w')
    (hsh : shape (H' :: O') = shape (H :: O)) (hf : ∀ nm, look Hr nm ≠ none → look H' nm = none) :
    ∃ ρ'', HInv E K' ρ'' ((downH Hr ++ H') :: O') w' ∧ Stays K K' ρ ρ'' (shape (H :: O)) (shape ((downH Hr ++ H') :: O')) ∧ Dn ρ' ρ'' (shape (Hr :: H' :: O')) (shape ((downH Hr ++ H') :: O')) := by
  let ρ'' : Nat → Nat → Loc := fun d n => match d with
    | 0 => match look Hr n with
      | some _ => ρ' 0 n
      | none => ρ' 1 n
    | d + 1 => ρ' (d + 2) n
  have hout : ∀ d n, ρ' (d + 1) n = ρ d n := fun d n => by rw [h'.outer]; rfl
  have r0 : ∀ n ob, look Hr n = some ob → ρ'' 0 n = ρ' 0 n := by intro n ob e; simp only [ρ'', e]
  have r1 : ∀ n, look Hr n = none → ρ'' 0 n = ρ 0 n := by intro n e; simp only [ρ'', e, hout]
  have r2 : ∀ d n, ρ'' (d + 1) n = ρ (d + 1) n := by intro d n; simp only [ρ'', hout]
  have hfr : ∀ n ob, look H' n = some ob → look Hr n = none := by
    intro n ob e
    cases hl : look Hr n with
    | none => rfl
    | some o => have := hf n (by simp [hl]); rw [this] at e; cases e
  have hobj : ∀ d n, objAt ((downH Hr ++ H') :: O') d n = match d with
      | 0 => match look Hr n with
        | some o => some o.down
        | none => look H' n
      | d + 1 => objAt (H' :: O') (d + 1) n := by
    intro d n
    cases d with
    | zero =>
      simp only [objAt, List.getElem?_cons_zero, look_append, look_downH]
      cases look Hr n <;> rfl
    | succ d => simp [objAt]
  have hcase : ∀ d n ob, objAt ((downH Hr ++ H') :: O') d n = some ob →
      (d = 0 ∧ ∃ o, look Hr n = some o ∧ ob = o.down ∧ objAt (Hr :: H' :: O') 0 n = some o ∧ ρ'' d n = ρ' 0 n) ∨
      (objAt (H' :: O') d n = some ob ∧ objAt (Hr :: H' :: O') (d + 1) n = some ob ∧ ρ'' d n = ρ d n ∧ ρ'' d n = ρ' (d + 1) n ∧ (d = 0 → look Hr n = none)) := by
    intro d n ob e
    rw [hobj] at e
    cases d with
    | zero =>
      simp only at e
      cases hl : look Hr n with
      | some o =>
        rw [hl] at e
        simp only [Option.some.injEq] at e
        exact .inl ⟨rfl, o, rfl, e.symm, by simpa [objAt] using hl, r0 _ _ hl⟩
      | none =>
        rw [hl] at e
        exact .inr ⟨by simpa [objAt] using e, by simpa [objAt] using e, r1 _ hl, by rw [r1 _ hl, hout], fun _ => rfl⟩
    | succ d => exact .inr ⟨e, by simpa [objAt] using e, r2 _ _, by rw [r2, hout], fun e => by omega⟩
  have hold : ∀ d n ob, objAt (H' :: O') d n = some ob → ∃ o0, objAt (H :: O) d n = some o0 ∧ ob.sh = o0.sh := by
    intro d n ob e
    have := congrFun (congrFun hsh d) n
    simp only [shape, e, Option.map_some] at this
    cases ho : objAt (H :: O) d n with
    | none => simp [ho] at this
    | some o0 => simp only [ho, Option.map_some, Option.some.injEq] at this; exact ⟨o0, rfl, this⟩
  have hold' : ∀ d n o0, objAt (H :: O) d n = some o0 → ∃ ob, objAt (H' :: O') d n = some ob ∧ ob.sh = o0.sh := by
    intro d n ob e
    have := congrFun (congrFun hsh d) n
    simp only [shape, e, Option.map_some] at this
    cases ho : objAt (H' :: O') d n with
    | none => simp [ho] at this
    | some o0 => simp only [ho, Option.map_some, Option.some.injEq] at this; exact ⟨o0, rfl, this⟩
  have hmer : ∀ d n x, shape (H' :: O') d n = some x → shape ((downH Hr ++ H') :: O') d n = some x ∧ ρ'' d n = ρ d n := by
    intro d n x e
    cases d with
    | zero =>
      cases hl : look H' n with
      | none => simp [shape, objAt, hl] at e
      | some ob =>
        have hr := hfr _ _ hl
        refine ⟨?_, r1 _ hr⟩
        simp only [shape, objAt, List.getElem?_cons_zero, hl] at e
        simp only [shape, hobj, hr, hl]
        exact e
    | succ d =>
      refine ⟨?_, r2 _ _⟩
      simp only [shape, hobj] at *
      exact e
  have hdn : Dn ρ' ρ'' (shape (Hr :: H' :: O')) (shape ((downH Hr ++ H') :: O')) := by
    refine ⟨fun n x e => ?_, fun d n x e => ?_⟩
    · cases hl : look Hr n with
      | none => simp [shape, objAt, hl] at e
      | some ob =>
        refine ⟨?_, r0 _ _ hl⟩
        simp only [shape, objAt, List.getElem?_cons_zero, hl, Option.map_some, Option.some.injEq] at e
        simp [shape, hobj, hl, Ob.down_sh, e]
    · have e' : shape (H' :: O') d n = some x := by simpa [shape, objAt] using e
      obtain ⟨h1, h2⟩ := hmer _ _ _ e'
      exact ⟨h1, by rw [h2, hout]⟩
  have hsz := h.size
  have hsz' : w.heap.size ≤ w'.heap.size := h'.size
  refine ⟨ρ'', ⟨h'.holds, ?_, ?_, by omega, ?_, ?_, ?_, Kn.le_trans h.Kle h'.Kle, ?_, ?_⟩, ⟨h'.Kle, ?_, ?_⟩, hdn⟩
  · intro d n ob e
    rcases hcase _ _ _ e with ⟨rfl, o, hl, rfl, ho, hρ⟩ | ⟨e1, e2, e3, e4, e5⟩
    · rw [hρ]
      have h0 := h'.own _ _ _ ho
      refine h0.down ⟨fun n x e => ?_, fun d n x e => ?_⟩
      · simp only [List.drop_zero, Nat.zero_add] at *
        exact hdn.z _ _ e
      · simp only [List.drop_zero, Nat.zero_add] at *
        exact hdn.s _ _ _ e
    · rw [e4]
      have h0 := h'.own _ _ _ e2
      refine h0.stays ⟨K'.le_refl, fun d' n' x hx => ?_, fun d' n' x hx => ?_⟩ (fun _ => rfl) (fun _ _ => rfl)
      · rw [shape_drop] at hx ⊢
        have hx' : shape (H' :: O') (d + d') n' = some x := by
          rw [show d + 1 + d' = (d + d') + 1 by omega] at hx
          simpa [shape, objAt] using hx
        exact (hmer _ _ _ hx').1
      · rw [shape_drop] at hx
        have hx' : shape (H' :: O') (d + d') n' = some x := by
          rw [show d + 1 + d' = (d + d') + 1 by omega] at hx
          simpa [shape, objAt] using hx
        rw [(hmer _ _ _ hx').2, show d + 1 + d' = (d + d') + 1 by omega, hout]
  · intro d n ob d' n' ob' e e' b b' hbe
    rcases hcase _ _ _ e with ⟨rfl, o, hl, rfl, ho, hρ⟩ | ⟨e1, e2, e3, e4, e5⟩ <;> rcases hcase _ _ _ e' with ⟨rfl, o', hl', rfl, ho', hρ'⟩ | ⟨e1', e2', e3', e4', e5'⟩
    · rw [hρ] at b hbe; rw [hρ'] at b' hbe
      exact ⟨rfl, (h'.inj _ _ _ _ _ _ ho ho' ((backed_down _ _).1 b) ((backed_down _ _).1 b') hbe).2⟩
    · rw [hρ] at b hbe; rw [e4'] at b' hbe
      have := (h'.inj _ _ _ _ _ _ ho e2' ((backed_down _ _).1 b) b' hbe).1
      omega
    · rw [e4] at b hbe; rw [hρ'] at b' hbe
      have := (h'.inj _ _ _ _ _ _ e2 ho' b ((backed_down _ _).1 b') hbe).1
      omega
    · rw [e4] at b hbe; rw [e4'] at b' hbe
      have := h'.inj _ _ _ _ _ _ e2 e2' b b' hbe
      exact ⟨by omega, this.2⟩
  · intro b hb hno
    have h1 := h'.old b (by have := E.lt b hb; have := h.size; show b < w.heap.size; omega) (by
      intro d n ob e hbk
      have e1 : objAt (H' :: O') d n = some ob := by simpa [objAt] using e
      rw [hout] at hbk ⊢
      obtain ⟨o0, ho0, hs0⟩ := hold _ _ _ e1
      cases d with
      | zero =>
        have := h.loc _ _ ho0 ((backed_sh hs0).1 hbk)
        exact fun e => this (e ▸ hb)
      | succ d =>
        have := hno d n ob (by rw [hobj]; exact e1) (by rw [r2]; exact hbk)
        rwa [r2] at this)
    rw [h1]
    refine h.old b hb fun d n ob e hbk => ?_
    obtain ⟨o1, ho1, hs1⟩ := hold' _ _ _ e
    have := hno d n o1 (by rw [hobj]; exact ho1) (by rw [r2]; exact (backed_sh hs1).2 hbk)
    rwa [r2] at this
  · intro n ob e b
    rcases hcase _ _ _ e with ⟨_, o, hl, rfl, ho, hρ⟩ | ⟨e1, e2, e3, e4, e5⟩
    · rw [hρ] at b ⊢
      have := h'.loc _ _ ho ((backed_down _ _).1 b)
      have : ¬ (ρ' 0 n).block < w.heap.size := this
      intro hp
      have := E.lt _ hp
      have := h.size
      omega
    · rw [e3] at b ⊢
      obtain ⟨o0, ho0, hs0⟩ := hold _ _ _ e1
      exact h.loc _ _ ho0 ((backed_sh hs0).1 b)
  · intro d
    funext n
    rw [r2, h.outer]
  · intro b o x hx
    rcases h'.Knew _ _ _ hx with h1 | h1
    · exact h.Knew _ _ _ h1
    · have : ¬ b < w.heap.size := h1
      exact .inr fun hp => by have := E.lt _ hp; have := h.size; omega
  · obtain ⟨a1, a2, a3⟩ := h'.rest
    obtain ⟨b1, b2, b3⟩ := h.rest
    exact ⟨a1.trans b1, a2.trans b2, a3.trans b3⟩
  · intro d n x e
    rw [← hsh] at e
    exact (hmer _ _ _ e).1
  · intro d n x e
    rw [← hsh] at e
    exact (hmer _ _ _ e).2

/- References to what nobody writes any more, as data. -/
mutual
def D.imm (H : Heap) : D → D
  | .osl 0 nm => match look H nm with
    | some (.arr _ es n xs false) => .i (.sl es n xs)
    | _ => .osl 0 nm
  | .xsl es n xs => .i (.sl es n xs)
  | .bt => .i (.v (.bool true))
  | .bf => .i (.v (.bool false))
  | .fn f a b => .fn f (D.imms H a) (D.imms H b)
  | .agg cs => .agg (D.imms H cs)
  | .tup cs => .tup (D.imms H cs)
  | d => d
def D.imms (H : Heap) : List D → List D
  | [] => []
  | d :: r => d.imm H :: D.imms H r
end
def headH : List Heap → Heap
  | [] => []
  | H :: _ => H

theorem rep_frozen {K : Kn} {ρ : Nat → Nat → Loc} {sh : Nat → Nat → Option Sh} {w : World} {l : Loc} {ty es n : Nat} {xs : List (List I)} (h : OwnAt K ρ sh w l (.arr ty es n xs false)) : Rep K (.slice l.base n l.cap) (.sl es n xs) := by
  obtain ⟨h1, h2, h3, h4, h5⟩ := h
  rcases h5 with ⟨h5, h6⟩ | ⟨h5, c, h6, h7, h8, h9, h10, h11⟩
  · have hn : n = 0 := by omega
    subst hn
    have hx : xs = [] := List.eq_nil_of_length_eq_zero h2
    subst hx
    rw [h5, h6]
    exact .nil
  · rw [h5]
    refine .sl h8 h1 (fun j x hx => ?_) h3 h2
    rw [List.getElem?_take] at hx
    split at hx
    · rw [Nat.zero_add, h11 rfl j (by assumption)]
      simpa using hx
    · cases hx

section
variable {E : Env} {K : Kn} {ρ : Nat → Nat → Loc} {S : List Heap} {w : World}
mutual
theorem RepD.imm (hw : HInv E K ρ S w) : ∀ {v : Value} {d : D}, RepD K ρ (shape S) v d → RepD K ρ (shape S) v (d.imm (headH S))
  | _, _, .dead x => .dead x
  | _, _, .i r => .i r
  | _, _, .agg r => .agg (RepDL.imm hw r)
  | _, _, .tup r => .tup (RepDL.imm hw r)
  | _, _, .box e => .box e
  | _, _, .arr e l => .arr e l
  | _, _, .osl (dep := dep) (nm := nm) e => by
    cases dep with
    | succ d => exact .osl e
    | zero =>
      simp only [D.imm]
      split
      · rename_i ty es n xs hl
        have ho : objAt S 0 nm = some (.arr ty es n xs false) := by
          cases S with
          | nil => simp [headH, look] at hl
          | cons H O => simpa [objAt, headH] using hl
        have hown := hw.own _ _ _ ho
        have e2 := e
        simp only [shape, ho, Option.map_some, Ob.sh, Option.some.injEq, Sh.arr.injEq] at e2
        obtain ⟨rfl, rfl⟩ := e2
        exact .i (rep_frozen hown)
      · exact .osl e
  | _, _, .omp (dep := dep) (nm := nm) e => by
    cases dep with
    | succ d => exact .omp e
    | zero =>
      simp only [D.imm]
      split
      · rename_i ty es n xs hl
        have ho : objAt S 0 nm = some (.arr ty es n xs false) := by
          cases S with
          | nil => simp [headH, look] at hl
          | cons H O => simpa [objAt, headH] using hl
        simp [shape, ho, Ob.sh] at e
      · exact .omp e
  | _, _, .xsl r e k l => .i (.sl r e k (Nat.le_refl _) l)
  | _, _, .xnil => .i .nil
  | _, _, .bt => .i (.v rfl)
  | _, _, .bf => .i (.v rfl)
  | _, _, .fn r s => .fn (RepDL.imm hw r) (RepDL.imm hw s)
theorem RepDL.imm (hw : HInv E K ρ S w) : ∀ {v : List Value} {d : List D}, RepDL K ρ (shape S) v d → RepDL K ρ (shape S) v (D.imms (headH S) d)
  | _, _, .nil => .nil
  | _, _, .cons r rs => .cons (RepD.imm hw r) (RepDL.imm hw rs)
end
end

/-- A CALL BY ITS CONTRACT. -/
theorem does_call {c : Cx} {s : St} {o : Oper} {Q : St → Prop} {f : FuncId} {args : List D} {res : D} {Hr H' : Heap} {O' : List Heap} {t : Nat}
    (hspec : ASpec c.P f (D.imms (headH s.S) args) s.S res Hr (H' :: O')) (ht : o.dst = some t) (hn : t < s.n) (hne : s.S ≠ []) (hsh : shape (H' :: O') = shape s.S) (hf : ∀ nm, look Hr nm ≠ none → look H' nm = none)
    (hq : Q { σ := (t, res.down) :: s.σ, S := (downH Hr ++ H') :: O', n := s.n }) : Does c o s Q (.call f args) := by
  intro K ρ a w hi ⟨vs, hrun, hrep⟩ next Qe hnext
  cases hS : s.S with
  | nil => exact absurd hS hne
  | cons H O =>
    have hh := hi.h
    have hrep' := RepDL.imm hh hrep
    rw [hS] at hspec hsh hh hrep'
    have fin : ∀ v w', (∃ K' ρ', HInv (.of K ρ w) K' ρ' (Hr :: H' :: O') w' ∧ RepD K' ρ' (shape (Hr :: H' :: O')) v res) → next (a.put o.dst v) w' := by
      intro v w' ⟨K', ρ', h1, h2⟩
      obtain ⟨ρ'', hI, hst, hdn⟩ := hh.back h1 hsh hf
      refine hnext _ _ _ _ _ hst.le (fun d n x _ e => ⟨hst.shp _ _ _ (by rw [hS] at e; exact e), hst.loc _ _ _ (by rw [hS] at e; exact e)⟩) ?_ hq
      rw [ht]
      refine inv_set hi hn hI ?_ (h2.down hdn)
      rw [hS]; exact hst
    rcases hspec c.E K ρ w vs hh hrep' with ⟨h1, h2⟩ | ⟨v, w', h1, h2⟩
    · rw [h1] at hrun
      simp only [Oper.wp, hrun, Oper.upon]
      refine h2.mono ?_
      rintro e w' ⟨v, rfl, hR⟩
      exact fin v w' hR
    · rw [h1] at hrun
      simp only [Oper.wp, hrun, Oper.upon]
      exact fin v w' h2
end Go.AI

/- The end of a call: what it hands over. -/
namespace Go.AI
open Classical

def memH (Hr : Heap) (nm : Nat) : Bool := (look Hr nm).isSome

/-- A cell, as data, for the caller. -/
def D.ret1 (H Hr : Heap) : D → D
  | .osl 0 nm => bif memH Hr nm then .osl 0 nm else (match look H nm with
    | some (.arr _ es n xs _) => .i (.sl es n xs)
    | _ => .dead)
  | .own 0 nm j off => bif memH Hr nm then .own 0 nm j off else (match look H nm with
    | some (.arr _ es n xs _) => .i (.ptr es xs j off)
    | _ => .dead)
  | .xsl es n xs => .i (.sl es n xs)
  | .bt => .i (.v (.bool true))
  | .bf => .i (.v (.bool false))
  | .fn _ _ _ => .dead
  | .agg _ => .dead
  | .tup _ => .dead
  | d => d
def D.ret2 (H Hr : Heap) : D → D
  | .own 0 nm j off => bif memH Hr nm then .own 0 nm j off else (match look H nm with
    | some (.arr _ es n xs _) => .i (.ptr es xs j off)
    | some (.box cs) => (match D.toIs (cs.map (D.ret1 H Hr)) with
      | some l => .i (.ptr l.length [l] j off)
      | none => .dead)
    | _ => .dead)
  | d => d.ret1 H Hr
def D.ret (H Hr : Heap) : D → D
  | .agg cs => .agg (cs.map (D.ret2 H Hr))
  | .tup cs => .tup (cs.map fun
    | .agg cs => .agg (cs.map (D.ret2 H Hr))
    | d => d.ret2 H Hr)
  | d => d.ret2 H Hr
def Ob.ret (H Hr : Heap) : Ob → Ob
  | .box cs => .box (cs.map (D.ret2 H Hr))
  | o => o

section
variable {E : Env} {K : Kn} {ρ : Nat → Nat → Loc} {H Hr : Heap} {O : List Heap} {w : World}

/-- Is it a block that the caller will not write? -/
def Mine (E : Env) (ρ : Nat → Nat → Loc) (Hr : Heap) (O : List Heap) (b : Nat) : Prop :=
  ¬ E.pr b ∧ (∀ d nm ob, objAt O d nm = some ob → backed (ρ (d + 1) nm) ob → (ρ (d + 1) nm).block ≠ b) ∧ ∀ nm ob, look Hr nm = some ob → backed (ρ 0 nm) ob → (ρ 0 nm).block ≠ b

noncomputable def frK (E : Env) (K : Kn) (ρ : Nat → Nat → Loc) (Hr : Heap) (O : List Heap) (w : World) : Kn := fun b o => if Mine E ρ Hr O b then w.cell? ⟨b, o, none⟩ else K b o

theorem frK_le (h : HInv E K ρ (H :: O) w) : K.le (frK E K ρ Hr O w) := by
  intro b o x hx
  unfold frK
  split
  · exact h.holds _ _ _ hx
  · exact hx

/-- What the caller takes over: objects of the frame, with the same kind. -/
def Takes (H Hr : Heap) : Prop := ∀ nm ob, look Hr nm = some ob → ∃ o0, look H nm = some o0 ∧ ob = o0.ret H Hr

theorem Ob.ret_sh (H Hr : Heap) (o : Ob) : (o.ret H Hr).sh = o.sh := by cases o <;> rfl

theorem mine_own (h : HInv E K ρ (H :: O) w) {nm : Nat} {ob : Ob} (ho : look H nm = some ob) (hb : backed (ρ 0 nm) ob) (hn : look Hr nm = none) (ht : Takes H Hr) : Mine E ρ Hr O (ρ 0 nm).block := by
  have ho' : objAt (H :: O) 0 nm = some ob := by simpa [objAt] using ho
  refine ⟨h.loc _ _ ho' hb, fun d n o e b he => ?_, fun n o e b he => ?_⟩
  · have e' : objAt (H :: O) (d + 1) n = some o := by simpa [objAt] using e
    have := (h.inj _ _ _ _ _ _ e' ho' b hb he).1
    omega
  · obtain ⟨o0, h0, rfl⟩ := ht _ _ e
    have e' : objAt (H :: O) 0 n = some o0 := by simpa [objAt] using h0
    have := (h.inj _ _ _ _ _ _ e' ho' ((backed_sh (Ob.ret_sh H Hr o0)).1 b) hb he).2
    subst this
    rw [hn] at e; cases e

theorem sh_ret {nm : Nat} {x : Sh} (ht : Takes H Hr) (hm : memH Hr nm = true) (e : shape (H :: O) 0 nm = some x) : shape (Hr :: O) 0 nm = some x := by
  unfold memH at hm
  cases hl : look Hr nm with
  | none => rw [hl] at hm; cases hm
  | some ob =>
    obtain ⟨o0, h0, rfl⟩ := ht _ _ hl
    simp only [shape, objAt, List.getElem?_cons_zero, h0, Option.map_some, Option.some.injEq] at e
    simp [shape, objAt, hl, Ob.ret_sh, e]
theorem sh_ret' {d nm : Nat} {x : Sh} (e : shape (H :: O) (d + 1) nm = some x) : shape (Hr :: O) (d + 1) nm = some x := by simpa [shape, objAt] using e

theorem ret1_rep (h : HInv E K ρ (H :: O) w) (ht : Takes H Hr) {v : Value} {d : D} (hr : RepD K ρ (shape (H :: O)) v d) : RepD (frK E K ρ Hr O w) ρ (shape (Hr :: O)) v (d.ret1 H Hr) := by
  have hle := frK_le (Hr := Hr) h
  cases hr with
  | dead => exact .dead _
  | i r => exact .i (r.mono hle)
  | agg r => exact .dead _
  | tup r => exact .dead _
  | fn r s => exact .dead _
  | bt => exact .i (.v rfl)
  | bf => exact .i (.v rfl)
  | xnil => exact .i .nil
  | xsl r e k l => exact .i (.sl (r.mono hle) e (fun j c hc => hle _ _ _ (k j c hc)) (Nat.le_refl _) l)
  | box e =>
    rename_i dep nm off
    cases dep with
    | succ d => exact .box (sh_ret' e)
    | zero =>
      simp only [D.ret1]
      cases hm : memH Hr nm with
      | true => exact .box (sh_ret ht hm e)
      | false =>
        simp only [cond_false]
        cases hl : look H nm with
        | none => exact .dead _
        | some ob =>
          cases ob with
          | mp => exact .dead _
          | box => exact .dead _
          | arr => simp [shape, objAt, hl, Ob.sh] at e
  | arr e l =>
    rename_i dep nm i off es len
    cases dep with
    | succ d => exact .arr (sh_ret' e) l
    | zero =>
      simp only [D.ret1]
      cases hm : memH Hr nm with
      | true => exact .arr (sh_ret ht hm e) l
      | false =>
        simp only [cond_false]
        cases hl : look H nm with
        | none => exact .dead _
        | some ob =>
          cases ob with
          | mp => exact .dead _
          | box => exact .dead _
          | arr ty es' n xs wr =>
            simp only [shape, objAt, List.getElem?_cons_zero, hl, Option.map_some, Ob.sh, Option.some.injEq, Sh.arr.injEq] at e
            obtain ⟨rfl, rfl⟩ := e
            have ho' : objAt (H :: O) 0 nm = some (.arr ty es' n xs wr) := by simpa [objAt] using hl
            obtain ⟨h1, h2, h3, h4, h5⟩ := h.own _ _ _ ho'
            rcases h5 with ⟨h5, _⟩ | ⟨h5, c, h6, h7, h8, _⟩
            · omega
            · have hn : look Hr nm = none := by unfold memH at hm; cases hh : look Hr nm with | none => rfl | some _ => rw [hh] at hm; cases hm
              have hmine := mine_own h hl (show backed (ρ 0 nm) (.arr ty es' n xs wr) by show _ ≠ none; rw [h5]; simp) hn ht
              have := Rep.ptr (K := frK E K ρ Hr O w) (b := (ρ 0 nm).block) (o := 0) (i := i) (off := off) (h8.mono hle) h1 (fun j x hx => by
                rw [List.getElem?_take] at hx
                split at hx
                · unfold frK
                  rw [if_pos hmine, Nat.zero_add, cell_of_heap h6]
                  simpa using hx
                · cases hx)
              rw [Nat.zero_add] at this
              exact .i this
  | omp e =>
    rename_i dep nm
    cases dep with
    | succ d => exact .omp (sh_ret' e)
    | zero =>
      simp only [D.ret1]
      cases hm : memH Hr nm with
      | true => exact .omp (sh_ret ht hm e)
      | false =>
        simp only [cond_false]
        cases hl : look H nm with
        | none => exact .dead _
        | some ob =>
          cases ob with
          | mp => exact .dead _
          | box => exact .dead _
          | arr ty es' n xs wr => simp [shape, objAt, hl, Ob.sh] at e
  | osl e =>
    rename_i dep nm es len
    cases dep with
    | succ d => exact .osl (sh_ret' e)
    | zero =>
      simp only [D.ret1]
      cases hm : memH Hr nm with
      | true => exact .osl (sh_ret ht hm e)
      | false =>
        simp only [cond_false]
        cases hl : look H nm with
        | none => exact .dead _
        | some ob =>
          cases ob with
          | mp => exact .dead _
          | box => exact .dead _
          | arr ty es' n xs wr =>
            simp only [shape, objAt, List.getElem?_cons_zero, hl, Option.map_some, Ob.sh, Option.some.injEq, Sh.arr.injEq] at e
            obtain ⟨rfl, rfl⟩ := e
            have ho' : objAt (H :: O) 0 nm = some (.arr ty es' n xs wr) := by simpa [objAt] using hl
            obtain ⟨h1, h2, h3, h4, h5⟩ := h.own _ _ _ ho'
            rcases h5 with ⟨h5, h6⟩ | ⟨h5, c, h6, h7, h8, _⟩
            · have hn : n = 0 := by omega
              subst hn
              have hx : xs = [] := List.eq_nil_of_length_eq_zero h2
              subst hx
              rw [h5, h6]
              exact .i .nil
            · have hn : look Hr nm = none := by unfold memH at hm; cases hh : look Hr nm with | none => rfl | some _ => rw [hh] at hm; cases hm
              have hmine := mine_own h hl (show backed (ρ 0 nm) (.arr ty es' n xs wr) by show _ ≠ none; rw [h5]; simp) hn ht
              rw [h5]
              refine .i (.sl (h8.mono hle) h1 (fun j x hx => ?_) h3 h2)
              rw [List.getElem?_take] at hx
              split at hx
              · unfold frK
                rw [if_pos hmine, Nat.zero_add, cell_of_heap h6]
                simpa using hx
              · cases hx

theorem map_ret1 (h : HInv E K ρ (H :: O) w) (ht : Takes H Hr) : ∀ {vs : List Value} {ds : List D}, RepDL K ρ (shape (H :: O)) vs ds → RepDL (frK E K ρ Hr O w) ρ (shape (Hr :: O)) vs (ds.map (D.ret1 H Hr))
  | _, _, .nil => .nil
  | _, _, .cons r rs => .cons (ret1_rep h ht r) (map_ret1 h ht rs)

theorem ret2_rep (h : HInv E K ρ (H :: O) w) (ht : Takes H Hr) {v : Value} {d : D} (hr : RepD K ρ (shape (H :: O)) v d) : RepD (frK E K ρ Hr O w) ρ (shape (Hr :: O)) v (d.ret2 H Hr) := by
  have h1 := ret1_rep h ht hr
  unfold D.ret2
  split
  · rename_i nm i off
    cases hm : memH Hr nm with
    | true => simp only [D.ret1, hm] at h1; exact h1
    | false =>
      simp only [cond_false]
      split
      · rename_i ty es n xs wr hl
        simp only [D.ret1, hm, hl] at h1
        exact h1
      · rename_i cs hl
        split
        · rename_i l hl2
          have ho' : objAt (H :: O) 0 nm = some (.box cs) := by simpa [objAt] using hl
          obtain ⟨c, T, h6, h7, h8⟩ := h.own _ _ _ ho'
          have hn : look Hr nm = none := by unfold memH at hm; cases hh : look Hr nm with | none => rfl | some _ => rw [hh] at hm; cases hm
          have hmine := mine_own h hl trivial hn ht
          have e1 : (fun d n => ρ (0 + d) n) = ρ := by funext d n; rw [Nat.zero_add]
          have h7' : RepDL K ρ (shape (H :: O)) c.toList cs := by rw [e1, List.drop_zero] at h7; exact h7
          have hrl := rep_toIs (map_ret1 h ht h7') hl2
          have hv : v = .pointer (some ⟨(ρ 0 nm).block, off, none⟩) := inv_box hr (by simp [shape, objAt, hl, Ob.sh])
          have hi : i = 0 := by
            cases hr with
            | box => rfl
            | arr e => simp [shape, objAt, hl, Ob.sh] at e
          subst hv
          subst hi
          have := Rep.ptr (K := frK E K ρ Hr O w) (b := (ρ 0 nm).block) (o := 0) (i := 0) (off := off) (es := l.length) (xs := [l]) (cs := c.toList) (by simpa using hrl) (by simp) (fun j x hx => by
            unfold frK
            rw [if_pos hmine, Nat.zero_add, cell_of_heap h6]
            simpa using hx)
          simp only [Nat.zero_mul, Nat.zero_add] at this
          exact .i this
        · exact .dead _
      · exact .dead _
  · exact h1

theorem map_ret2 (h : HInv E K ρ (H :: O) w) (ht : Takes H Hr) : ∀ {vs : List Value} {ds : List D}, RepDL K ρ (shape (H :: O)) vs ds → RepDL (frK E K ρ Hr O w) ρ (shape (Hr :: O)) vs (ds.map (D.ret2 H Hr))
  | _, _, .nil => .nil
  | _, _, .cons r rs => .cons (ret2_rep h ht r) (map_ret2 h ht rs)

theorem ret_rep (h : HInv E K ρ (H :: O) w) (ht : Takes H Hr) {v : Value} {d : D} (hr : RepD K ρ (shape (H :: O)) v d) : RepD (frK E K ρ Hr O w) ρ (shape (Hr :: O)) v (d.ret H Hr) := by
  have h2 := ret2_rep h ht hr
  unfold D.ret
  split
  · cases hr with
    | agg r => exact .agg (map_ret2 h ht r)
  · cases hr with
    | tup r =>
      refine .tup ?_
      clear h2
      induction r using RepDL.rec (motive_1 := fun _ _ _ => True) with
      | nil => exact .nil
      | cons r rs _ ih =>
        refine .cons ?_ ih
        dsimp only
        split
        · cases r with
          | agg r => exact .agg (map_ret2 h ht r)
        · exact ret2_rep h ht r
      | _ => trivial
  · exact h2

/-- The frame is left: its memory is written no more. -/
theorem HInv.leave (h : HInv E K ρ (H :: O) w) (ht : Takes H Hr) : HInv E (frK E K ρ Hr O w) ρ (Hr :: O) w := by
  have hle := frK_le (Hr := Hr) h
  have hsame : ∀ b, ¬ Mine E ρ Hr O b → ∀ o, frK E K ρ Hr O w b o = K b o := fun b hb o => by unfold frK; rw [if_neg hb]
  have hobj : ∀ d n ob, objAt (Hr :: O) d n = some ob → ∃ o0, objAt (H :: O) d n = some o0 ∧ ob.sh = o0.sh ∧ ((d = 0 ∧ ob = o0.ret H Hr) ∨ (d ≠ 0 ∧ ob = o0)) := by
    intro d n ob e
    cases d with
    | zero =>
      obtain ⟨o0, h0, rfl⟩ := ht n ob (by simpa [objAt] using e)
      exact ⟨o0, by simpa [objAt] using h0, Ob.ret_sh _ _ _, .inl ⟨rfl, rfl⟩⟩
    | succ d => exact ⟨ob, by simpa [objAt] using e, rfl, .inr ⟨by omega, rfl⟩⟩
  have hnm : ∀ d n ob, objAt (Hr :: O) d n = some ob → backed (ρ d n) ob → ¬ Mine E ρ Hr O (ρ d n).block := by
    intro d n ob e b hm
    cases d with
    | zero => exact hm.2.2 n ob (by simpa [objAt] using e) b rfl
    | succ d => exact hm.2.1 d n ob (by simpa [objAt] using e) b rfl
  refine ⟨?_, ?_, ?_, h.size, ?_, ?_, h.outer, Kn.le_trans h.Kle hle, ?_, h.rest⟩
  · intro b o x hx
    unfold frK at hx
    split at hx
    · exact hx
    · exact h.holds _ _ _ hx
  · intro d n ob e
    obtain ⟨o0, h0, hs, hc⟩ := hobj _ _ _ e
    have hown := h.own _ _ _ h0
    rcases hc with ⟨rfl, rfl⟩ | ⟨hd, rfl⟩
    · have e1 : (fun d n => ρ (0 + d) n) = ρ := by funext d n; rw [Nat.zero_add]
      rw [e1, List.drop_zero] at hown ⊢
      cases o0 with
      | mp kk m =>
        obtain ⟨⟨es, ck, h1, h2⟩, h3⟩ := hown
        exact ⟨⟨es, ck, h1, h2⟩, fun o => by rw [hsame _ (hnm _ _ _ e trivial)]; exact h3 o⟩
      | box cs =>
        obtain ⟨c, T, h1, h2, h3⟩ := hown
        exact ⟨c, T, h1, map_ret2 h ht h2, fun o => by rw [hsame _ (hnm _ _ _ e trivial)]; exact h3 o⟩
      | arr ty es m xs wr =>
        have hown' : OwnAt K ρ (shape (Hr :: O)) w (ρ 0 n) (.arr ty es m xs wr) := hown
        exact hown'.stays ⟨hle, fun _ _ _ hx => hx, fun _ _ _ _ => rfl⟩ (fun _ => rfl) (fun hb o => hsame _ (hnm _ _ _ e hb) o)
    · refine hown.stays ⟨hle, fun d' n' x hx => ?_, fun _ _ _ _ => rfl⟩ (fun _ => rfl) (fun hb o => hsame _ (hnm _ _ _ e hb) o)
      rw [shape_drop] at hx ⊢
      obtain ⟨k, rfl⟩ : ∃ k, d = k + 1 := ⟨d - 1, by omega⟩
      rw [show k + 1 + d' = (k + d') + 1 by omega] at hx ⊢
      exact sh_ret' hx
  · intro d n ob d' n' ob' e e' b b' hbe
    obtain ⟨o0, h0, hs, _⟩ := hobj _ _ _ e
    obtain ⟨o1, h1, hs1, _⟩ := hobj _ _ _ e'
    exact h.inj _ _ _ _ _ _ h0 h1 ((backed_sh hs).1 b) ((backed_sh hs1).1 b') hbe
  · intro b hb hno
    exact h.old b hb fun d n ob e => hno d n ob (by simpa [objAt] using e)
  · intro n ob e b
    obtain ⟨o0, h0, hs, _⟩ := hobj _ _ _ e
    exact h.loc _ _ h0 ((backed_sh hs).1 b)
  · intro b o x hx
    unfold frK at hx
    split at hx
    · rename_i hm; exact .inr hm.1
    · exact h.Knew _ _ _ hx
end
end Go.AI

/- The machine on abstract states: it runs as far as it can, and says what it asks for. -/
namespace Go.AI

inductive MS where
  | at (ops : Array Oper) (rest : List Nat) (s : St) (o : Oper) (a : Ask) (k : List Item)
  | know (ops : Array Oper) (l : List Nat) (t : Nat) (b : Bool) (s : St) (k : List Item)
  | drawn (id : Nat) (ops : Array Oper) (s : St) (k : List Item)
  | cnd (b : Bool) (x : Operand) (ct cf : Code) (s : St) (k : List Item)
  | loop (body : Code) (s : St) (k : List Item)
  | ret (s : St)
  | stop (id : Nat) (ops : Array Oper) (draw : Bool) (s : St) (k : List Item)
  | pause (ops : Array Oper) (i : Nat) (rest : List Nat) (o : Oper) (s : St) (k : List Item)
  | bad

def freshB (adds H : Heap) : Bool := match adds with
  | [] => true
  | (n, _) :: r => match look H n with
    | none => freshB r H
    | some _ => false
theorem freshB_ok : ∀ {adds H : Heap}, freshB adds H = true → ∀ nm, look adds nm ≠ none → look H nm = none
  | [], H, _, nm, h => absurd rfl h
  | (n, o) :: r, H, hb, nm, h => by
    simp only [freshB] at hb
    cases hl : look H n with
    | some _ => simp [hl] at hb
    | none =>
      simp only [hl] at hb
      rw [look_cons] at h
      by_cases hn : n = nm
      · subst hn; exact hl
      · rw [if_neg hn] at h; exact freshB_ok hb nm h


/-- A slot set, the state's parts taken out first (so that terms do not grow). -/
def setM (s : St) (t : Nat) (d : D) : St := match s with
  | ⟨σ, S, n⟩ => ⟨(t, d) :: σ, S, n⟩
theorem setM_eq (s : St) (t : Nat) (d : D) : setM s t d = s.set t d := by cases s; rfl
def stepS (s : St) (t : Nat) (d : D) (S' : List Heap) : St := match s with
  | ⟨σ, _, n⟩ => ⟨(t, d) :: σ, S', n⟩
theorem stepS_eq (s : St) (t : Nat) (d : D) (S' : List Heap) : stepS s t d S' = { σ := (t, d) :: s.σ, S := S', n := s.n } := by cases s; rfl
def forceP {α β : Type} : List (Nat × α) → (List (Nat × α) → β) → β
  | [], k => k []
  | (t, d) :: r, k => forceP r fun r' => k ((t, d) :: r')
theorem forceP_eq {α β : Type} : ∀ (l : List (Nat × α)) (k : List (Nat × α) → β), forceP l k = k l
  | [], k => rfl
  | (t, d) :: r, k => by simp only [forceP, forceP_eq r]
def forceHd {β : Type} (S : List Heap) (k : List Heap → β) : β := match S with
  | [] => k []
  | H :: O => k (H :: O)
theorem forceHd_eq {β : Type} (S : List Heap) (k : List Heap → β) : forceHd S k = k S := by cases S <;> rfl
/-- A state that an operation has made, its parts taken out. -/
def modM (s s' : St) (k : St → MS) : MS := match s with
  | ⟨_, _, n⟩ => bif Nat.beq s'.n n then forceP s'.σ fun σ => forceHd s'.S fun S => k ⟨σ, S, n⟩ else .bad
def fin0 (o : Oper) (s : St) (a : Ask) (stop : MS) (k : St → MS) : MS := match a with
  | .val d => match o.dst with
    | some t => bif Nat.ble (t + 1) s.n then k (setM s t d) else .bad
    | none => .bad
  | .new adds d => match o.dst, s.S with
    | some t, H :: O => bif Nat.ble (t + 1) s.n && freshB adds H then k (stepS s t d ((adds ++ H) :: O)) else .bad
    | _, _ => .bad
  | .mod s' => bif turns o then modM s s' k else .bad
  | .bad => .bad
  | _ => stop

def fin1 (own : Bool) (o : Oper) (s : St) (a : Ask) (stop : MS) (k : St → MS) : MS := match a with
  | .alt x y => fin0 o s (bif own then x else y) .bad k
  | a => fin0 o s a stop k
def memS : List Nat → Nat → Bool
  | [], _ => false
  | x :: r, n => bif Nat.beq x n then true else memS r n
/-- Kept as an own slice, also where the list of stops says so. -/
def ownX (stp : List Nat) (ops : Array Oper) (o : Oper) : Bool := bif ownB ops o then true else match o.dst with
  | some t => memS stp (100000 + t)
  | none => false
/-- A pause before an operation. -/
def pauseB (stp : List Nat) (o : Oper) : Bool := match o.dst with
  | some t => memS stp (200000 + t)
  | none => false
def run (T : TT) (stp : List Nat) : Nat → List Item → St → MS
  | 0, _, _ => .bad
  | n + 1, todo, s => match todo with
    | [] => .ret s
    | .inRegion ops l :: k => match l with
      | [] => run T stp n k s
      | i :: rest => match ops[i]? with
        | none => .bad
        | some o => match o.guard with
          | none => bif pauseB stp o then .pause ops i rest o s k else fin1 (ownX stp ops o) o s (exec T s o) (.at ops rest s o (exec T s o) k) fun s' => run T stp n (.inRegion ops rest :: k) s'
          | some (j, want) => match (ops[j]?).bind (·.dst) with
            | none => .bad
            | some t => match s.get t with
              | .bt => bif want then fin1 (ownX stp ops o) o s (exec T s o) (.at ops rest s o (exec T s o) k) fun s' => run T stp n (.inRegion ops rest :: k) s'
                else match o.dst with
                  | some d => bif Nat.ble (d + 1) s.n then run T stp n (.inRegion ops rest :: k) (setM s d (.tup [])) else .bad
                  | none => .bad
              | .bf => bif want then (match o.dst with
                  | some d => bif Nat.ble (d + 1) s.n then run T stp n (.inRegion ops rest :: k) (setM s d (.tup [])) else .bad
                  | none => .bad)
                else fin1 (ownX stp ops o) o s (exec T s o) (.at ops rest s o (exec T s o) k) fun s' => run T stp n (.inRegion ops rest :: k) s'
              | .tup [] => (match o.dst with
                  | some d => bif Nat.ble (d + 1) s.n then run T stp n (.inRegion ops rest :: k) (setM s d (.tup [])) else .bad
                  | none => .bad)
              | .i (.v (.bool b)) => .know ops (i :: rest) t b s k
              | _ => .bad
    | .code c :: k => match c with
      | .skip => run T stp n k s
      | .region id ops draw => bif memS stp id then .stop id ops draw s k else bif draw then .drawn id ops s k else run T stp n (.inRegion ops (List.range ops.size) :: k) s
      | .seq x y => run T stp n (.code x :: .code y :: k) s
      | .cond x a b => match evD s x with
        | .bt => run T stp n (.code a :: k) s
        | .bf => run T stp n (.code b :: k) s
        | .i (.v (.bool t)) => .cnd t x a b s k
        | _ => .bad
      | .block id x => run T stp n (.code x :: .inBlock id :: k) s
      | .loop x => .loop x s k
      | .exit id => match exitTo id k with
        | some k' => run T stp n k' s
        | none => .bad
      | .ret => .ret s
      | _ => .bad
    | .inBlock _ :: k => run T stp n k s
    | .inLoop x :: k => .loop x s k
    | _ => .bad

section
variable {c : Cx}

def Ret (c : Cx) (s : St) : Prop := ∀ K ρ a w, Inv c.E K ρ s a w → ∃ v, (results c.fn a.tmps).run c.P w = .ok v w ∧ c.post v w

def MSx (c : Cx) : MS → Prop
  | .at ops rest s o a k => Does c o s (fun s' => RG c ops rest s' (Rch c k)) a
  | .know ops l t b s k => RG c ops l s (Rch c k)
  | .drawn id ops s k => Rch c (.code (.region id ops true) :: k) s
  | .cnd b x ct cf s k => Rch c (.code (.cond x ct cf) :: k) s
  | .loop body s k => Rch c (.code body :: .inLoop body :: k) s
  | .ret s => Ret c s
  | .stop id ops draw s k => Rch c (.code (.region id ops draw) :: k) s
  | .pause ops i rest o s k => RG c ops (i :: rest) s (Rch c k)
  | .bad => False

/-- What a run shows of what is to do. -/
def Tgt (c : Cx) (todo : List Item) (s : St) : Prop := match todo with
  | .inRegion ops l :: k => RG c ops l s (Rch c k)
  | _ => Rch c todo s

theorem rch_inRegion {ops : Array Oper} {l : List Nat} {s : St} {k : List Item} (h : RG c ops l s (Rch c k)) : Rch c (.inRegion ops l :: k) s := by
  intro K ρ a w b cs hi hb hk
  obtain ⟨e, a', w', ⟨rfl, s', K', ρ', hi', hq⟩, harr⟩ := wp_ops l a w (h K ρ a w hi) b k cs
  obtain ⟨v, w'', fr, hp, hst, h3⟩ := hq K' ρ' a' w' b cs hi' hb hk
  exact ⟨v, w'', fr, hp, Steps.trans harr hst, h3⟩
theorem tgt_rch {todo : List Item} {s : St} (h : Tgt c todo s) : Rch c todo s := by
  unfold Tgt at h
  split at h
  · exact rch_inRegion h
  · exact h

theorem ret_rch (hfn : c.P.funcs[c.f]? = some c.fn) {s : St} (h : Ret c s) : Rch c [] s ∧ ∀ k, Rch c (.code .ret :: k) s := by
  refine ⟨fun K ρ a w b cs hi hb hk => ?_, fun k K ρ a w b cs hi hb hk => ?_⟩
  · obtain ⟨v, hr, hp⟩ := h K ρ a w hi
    exact ⟨v, w, _, hp, .one step_end, hb, rfl, hi.defers, hk, c.fn, by rw [← hfn, ← hb]; rfl, hr⟩
  · obtain ⟨v, hr, hp⟩ := h K ρ a w hi
    exact ⟨v, w, _, hp, .one step_ret, hb, rfl, hi.defers, hk, c.fn, by rw [← hfn, ← hb]; rfl, hr⟩

theorem fin0_ok (hT : TOk c.P c.T) {o : Oper} {s : St} {ops : Array Oper} {rest : List Nat} {k : List Item} {g : St → MS} (hg : ∀ s', MSx c (g s') → RG c ops rest s' (Rch c k)) {a : Ask} {stop : MS}
    (hstop : MSx c stop → Does c o s (fun s' => RG c ops rest s' (Rch c k)) a) (h : MSx c (fin0 o s a stop g)) : Does c o s (fun s' => RG c ops rest s' (Rch c k)) a := by
  unfold fin0 at h
  split at h
  · rename_i d
    simp only [Does]
    split at h
    · rename_i t ht
      rw [ht]
      cases hb : Nat.ble (t + 1) s.n with
      | false => rw [hb] at h; exact h.elim
      | true =>
        rw [hb] at h
        rw [cond_true, setM_eq] at h
        exact ⟨Nat.le_of_ble_eq_true hb, hg _ h⟩
    · exact h.elim
  · rename_i adds d
    simp only [Does]
    split at h
    · rename_i t H O ht hS
      rw [ht, hS]
      cases hb : Nat.ble (t + 1) s.n && freshB adds H with
      | false => rw [hb] at h; exact h.elim
      | true =>
        rw [hb] at h
        simp only [Bool.and_eq_true] at hb
        rw [cond_true, stepS_eq] at h
        exact ⟨Nat.le_of_ble_eq_true hb.1, freshB_ok hb.2, hg _ h⟩
    · exact h.elim
  · rename_i s'
    simp only [Does]
    cases hb : turns o with
    | false => rw [hb] at h; exact h.elim
    | true =>
      rw [hb, cond_true] at h
      refine ⟨rfl, hg _ ?_⟩
      unfold modM at h
      obtain ⟨σ0, S0, n0⟩ := s
      dsimp only at h
      cases hn : Nat.beq s'.n n0 with
      | false => rw [hn] at h; exact h.elim
      | true =>
        rw [hn, cond_true, forceP_eq, forceHd_eq] at h
        have e : s' = ⟨s'.σ, s'.S, n0⟩ := by rw [← Nat.eq_of_beq_eq_true hn]
        rw [e]; exact h
  · exact h.elim
  · exact hstop h
theorem fin1_ok (hT : TOk c.P c.T) {o : Oper} {s : St} {ops : Array Oper} {rest : List Nat} {k : List Item} {g : St → MS} (hg : ∀ s', MSx c (g s') → RG c ops rest s' (Rch c k)) {a : Ask} {own : Bool} {stop : MS}
    (hstop : MSx c stop → Does c o s (fun s' => RG c ops rest s' (Rch c k)) a) (h : MSx c (fin1 own o s a stop g)) : Does c o s (fun s' => RG c ops rest s' (Rch c k)) a := by
  unfold fin1 at h
  split at h
  · rename_i x y
    cases own with
    | true => exact .inl (fin0_ok hT (ops := ops) (stop := .bad) hg (fun h => h.elim) h)
    | false => exact .inr (fin0_ok hT (ops := ops) (stop := .bad) hg (fun h => h.elim) h)
  · exact fin0_ok hT (ops := ops) hg hstop h

theorem run_sound (hT : TOk c.P c.T) (hfn : c.P.funcs[c.f]? = some c.fn) : ∀ (n : Nat) (todo : List Item) (s : St), MSx c (run c.T c.stop n todo s) → Tgt c todo s := by
  intro n
  induction n with
  | zero => intro todo s h; exact h.elim
  | succ n ih =>
    intro todo s h
    have ihR : ∀ todo s, MSx c (run c.T c.stop n todo s) → Rch c todo s := fun todo s h => tgt_rch (ih todo s h)
    have ihG : ∀ ops l k s, MSx c (run c.T c.stop n (.inRegion ops l :: k) s) → RG c ops l s (Rch c k) := fun ops l k s h => ih _ s h
    unfold run at h
    split at h
    · exact (ret_rch hfn h).1
    · rename_i ops l k
      show RG c ops l s (Rch c k)
      split at h
      · exact rg_nil (ihR _ _ h)
      · rename_i i rest
        split at h
        · exact h.elim
        · rename_i o ho
          have hrun : MSx c (fin1 (ownX c.stop ops o) o s (exec c.T s o) (.at ops rest s o (exec c.T s o) k) fun s' => run c.T c.stop n (.inRegion ops rest :: k) s') → wantedD ops s o = some true → RG c ops (i :: rest) s (Rch c k) := by
            intro h hw
            exact rg_op ho hw (stp_of_does hT (fin1_ok hT (ops := ops) (rest := rest) (k := k) (stop := .at ops rest s o (exec c.T s o) k) (fun s' h => ihG _ _ _ _ h) (fun h => h) h))
          split at h
          · rename_i hg
            cases hpb : pauseB c.stop o with
            | true => rw [hpb] at h; exact h
            | false =>
              rw [hpb] at h
              exact hrun h (by unfold wantedD; rw [hg])
          · rename_i j want hg
            split at h
            · exact h.elim
            · rename_i t ht
              split at h
              · rename_i hs
                cases want with
                | true => exact hrun h (by unfold wantedD; simp only [hg, ht, hs])
                | false =>
                  simp only [cond_false] at h
                  split at h
                  · rename_i d hd
                    cases hb : Nat.ble (d + 1) s.n with
                    | false => rw [hb] at h; exact h.elim
                    | true =>
                      rw [hb, cond_true, setM_eq] at h
                      exact rg_skip ho (by unfold wantedD; simp only [hg, ht, hs]) hd (Nat.le_of_ble_eq_true hb) (ihG _ _ _ _ h)
                  · exact h.elim
              · rename_i hs
                cases want with
                | false => exact hrun h (by unfold wantedD; simp only [hg, ht, hs]; rfl)
                | true =>
                  simp only [cond_true] at h
                  split at h
                  · rename_i d hd
                    cases hb : Nat.ble (d + 1) s.n with
                    | false => rw [hb] at h; exact h.elim
                    | true =>
                      rw [hb, cond_true, setM_eq] at h
                      exact rg_skip ho (by unfold wantedD; simp only [hg, ht, hs]; rfl) hd (Nat.le_of_ble_eq_true hb) (ihG _ _ _ _ h)
                  · exact h.elim
              · rename_i hs
                split at h
                · rename_i d hd
                  cases hb : Nat.ble (d + 1) s.n with
                  | false => rw [hb] at h; exact h.elim
                  | true =>
                    rw [hb, cond_true, setM_eq] at h
                    exact rg_skip ho (by unfold wantedD; simp only [hg, ht, hs]) hd (Nat.le_of_ble_eq_true hb) (ihG _ _ _ _ h)
                · exact h.elim
              · exact h
              · exact h.elim
    · rename_i x k
      show Rch c (.code x :: k) s
      split at h
      · exact rch_skip (ihR _ _ h)
      · rename_i id ops draw
        cases hm : memS c.stop id with
        | true => rw [hm] at h; exact h
        | false =>
          rw [hm] at h
          cases draw with
          | true => exact h
          | false => exact rch_region (ihG _ _ _ _ h)
      · exact rch_seq (ihR _ _ h)
      · split at h
        · rename_i hx; exact rch_cond_t hx (ihR _ _ h)
        · rename_i hx; exact rch_cond_f hx (ihR _ _ h)
        · exact h
        · exact h.elim
      · exact rch_block (ihR _ _ h)
      · exact rch_loop h
      · split at h
        · rename_i he; exact rch_exit he (ihR _ _ h)
        · exact h.elim
      · exact (ret_rch hfn h).2 k
      · exact h.elim
    · exact rch_inBlock (ihR _ _ h)
    · exact rch_inLoop h
    · exact h.elim

/-- THE RULES. -/
theorem rch_run (hT : TOk c.P c.T) (hfn : c.P.funcs[c.f]? = some c.fn) {todo : List Item} {s : St} (h : MSx c (run c.T c.stop 1000 todo s)) : Rch c todo s := tgt_rch (run_sound hT hfn 1000 todo s h)

def isCons {α : Type} : List α → Bool
  | [] => false
  | _ :: _ => true
section
variable {ops : Array Oper} {rest : List Nat} {s : St} {o : Oper} {k : List Item}
/-- On with an answer. -/
def cont (T : TT) (stp : List Nat) (ops : Array Oper) (rest : List Nat) (s : St) (o : Oper) (a : Ask) (k : List Item) : MS := fin1 (ownX stp ops o) o s a (.at ops rest s o a k) fun s' => run T stp 1000 (.inRegion ops rest :: k) s'
theorem cont_ok (hT : TOk c.P c.T) (hfn : c.P.funcs[c.f]? = some c.fn) {a : Ask} (h : MSx c (cont c.T c.stop ops rest s o a k)) : Does c o s (fun s' => RG c ops rest s' (Rch c k)) a :=
  fin1_ok hT (ops := ops) (rest := rest) (k := k) (stop := .at ops rest s o a k) (fun s' h => run_sound hT hfn 1000 (.inRegion ops rest :: k) s' h) (fun h => h) h
variable (hT : TOk c.P c.T) (hfn : c.P.funcs[c.f]? = some c.fn)
include hT hfn
theorem m_go {id : Nat} {draw : Bool} (h : MSx c (bif draw then .drawn id ops s k else run c.T c.stop 1000 (.inRegion ops (List.range ops.size) :: k) s)) : MSx c (.stop id ops draw s k) := by
  cases draw with
  | true => exact h
  | false => exact rch_region (run_sound hT hfn 1000 (.inRegion ops (List.range ops.size) :: k) s h)
theorem m_pause {i : Nat} {s' : St} (ho : ops[i]? = some o) (hg : o.guard = none) (hw : ∀ K ρ a w, Inv c.E K ρ s a w → ∃ K' ρ', Inv c.E K' ρ' s' a w) (h : MSx c (cont c.T c.stop ops rest s' o (exec c.T s' o) k)) : MSx c (.pause ops i rest o s k) := by
  have h1 : RG c ops (i :: rest) s' (Rch c k) := rg_op ho (by unfold wantedD; rw [hg]) (stp_of_does hT (cont_ok hT hfn h))
  intro K ρ a w hi
  obtain ⟨K', ρ', hi'⟩ := hw K ρ a w hi
  exact h1 K' ρ' a w hi'
theorem m_need {p : Prop} {a : Ask} (hp : p) (h : MSx c (cont c.T c.stop ops rest s o a k)) : MSx c (.at ops rest s o (.need p a) k) := ⟨hp, cont_ok hT hfn h⟩
theorem m_elem {xs : List (List I)} {i : Nat} {g : List I → Ask} {d : List I} (hd : xs[i]? = some d) (h : MSx c (cont c.T c.stop ops rest s o (g d) k)) : MSx c (.at ops rest s o (.elem xs i g) k) := ⟨d, hd, cont_ok hT hfn h⟩
theorem m_obj {dep nm : Nat} {g : Ob → Ask} {ob : Ob} (hd : objAt s.S dep nm = some ob) (h : MSx c (cont c.T c.stop ops rest s o (g ob) k)) : MSx c (.at ops rest s o (.obj dep nm g) k) := ⟨ob, hd, cont_ok hT hfn h⟩
theorem m_anyb {p : Bool → Prop} {t : Nat} (ht : o.dst = some t) (hn : Nat.ble (t + 1) s.n = true) (h : ∀ b, p b → MSx c (run c.T c.stop 1000 (.inRegion ops rest :: k) (setM s t (.i (.v (.bool b)))))) : MSx c (.at ops rest s o (.anyb p) k) := by
  show Does _ _ _ _ _
  simp only [Does, ht]
  exact ⟨Nat.le_of_ble_eq_true hn, fun b hb => by have h' := h b hb; rw [setM_eq] at h'; exact run_sound hT hfn 1000 (.inRegion ops rest :: k) _ h'⟩
theorem m_call {f : FuncId} {args : List D} {res : D} {Hr H' : Heap} {O' : List Heap} {t : Nat} (hspec : ASpec c.P f (D.imms (headH s.S) args) s.S res Hr (H' :: O')) (ht : o.dst = some t) (hn : Nat.ble (t + 1) s.n = true)
    (hne : isCons s.S = true) (hsh : shape (H' :: O') = shape s.S) (hf : freshB Hr H' = true) (h : MSx c (run c.T c.stop 1000 (.inRegion ops rest :: k) (stepS s t res.down ((downH Hr ++ H') :: O')))) : MSx c (.at ops rest s o (.call f args) k) :=
  does_call hspec ht (Nat.le_of_ble_eq_true hn) (by
    intro e
    rw [e] at hne
    cases hne) hsh (freshB_ok hf) (by rw [stepS_eq] at h; exact run_sound hT hfn 1000 (.inRegion ops rest :: k) _ h)
theorem m_know {l : List Nat} {t : Nat} {b : Bool} (ht : s.get t = .i (.v (.bool b))) (h1 : b = true → MSx c (run c.T c.stop 1000 (.inRegion ops l :: k) (setM s t .bt))) (h2 : b = false → MSx c (run c.T c.stop 1000 (.inRegion ops l :: k) (setM s t .bf))) :
    MSx c (.know ops l t b s k) := rg_know ht (fun e => by have h' := h1 e; rw [setM_eq] at h'; exact run_sound hT hfn 1000 (.inRegion ops l :: k) _ h') (fun e => by have h' := h2 e; rw [setM_eq] at h'; exact run_sound hT hfn 1000 (.inRegion ops l :: k) _ h')
theorem m_cnd {b : Bool} {x : Operand} {ct cf : Code} (hx : evD s x = .i (.v (.bool b))) (h1 : b = true → MSx c (run c.T c.stop 1000 (.code ct :: k) s)) (h2 : b = false → MSx c (run c.T c.stop 1000 (.code cf :: k) s)) : MSx c (.cnd b x ct cf s k) :=
  rch_cond hx (fun e => tgt_rch (run_sound hT hfn 1000 _ _ (h1 e))) (fun e => tgt_rch (run_sound hT hfn 1000 _ _ (h2 e)))
end
end
end Go.AI

/- Contracts: how they are proved; cuts. -/
namespace Go.AI

def PostOf (E : Env) (res : D) (Hr : Heap) (O' : List Heap) : Value → World → Prop := fun v w' => ∃ K' ρ', HInv E K' ρ' (Hr :: O') w' ∧ RepD K' ρ' (shape (Hr :: O')) v res

def argσ : Nat → List D → List (Nat × D)
  | _, [] => []
  | n, d :: r => (n, d) :: argσ (n + 1) r
theorem look_argσ : ∀ (l : List D) (n t : Nat), look (argσ n l) t = if n ≤ t then l[t - n]? else none
  | [], n, t => by simp [argσ, look]
  | d :: r, n, t => by
    simp only [argσ, look_cons, look_argσ r (n + 1) t]
    by_cases h : n = t
    · subst h; simp
    · rw [if_neg h]
      by_cases h2 : n + 1 ≤ t
      · rw [if_pos h2, if_pos (by omega), show t - n = (t - (n + 1)) + 1 by omega]
        simp
      · rw [if_neg h2, if_neg (by omega)]

section
variable {P : Program} {T : TT} {f : FuncId} {fn : Func} {code : Code}

/-- TO PROVE A CONTRACT: run the body from the state in which it is entered. -/
theorem aspec_stop (stop : List Nat) (hT : TOk P T) (hf : P.funcs[f]? = some fn) (hb : fn.body = some code) (hcall : ∀ args w, (callFunc f args).run P w = .ok (.enter f args) w) {args : List D} {O O' : List Heap} {res : D} {Hr : Heap} {n : Nat}
    (hn : fn.ntmps = n) (hlen : args.length ≤ n)
    (h : ∀ E, Rch { P := P, T := T, E := E, f := f, fn := fn, post := PostOf E res Hr O', stop := stop } [.code code] { σ := argσ 0 (D.shifts 1 args), S := [] :: O, n := n }) : ASpec P f args O res Hr O' := by
  intro E K ρ w vs hw hrep
  refine .inl ⟨hcall _ _, fun cs => ?_⟩
  let ρ1 : Nat → Nat → Loc := fun d n => match d with
    | 0 => ⟨0, 0, none⟩
    | d + 1 => ρ d n
  have hI : HInv (.of K ρ w) K ρ1 ([] :: O) w := by
    refine ⟨hw.holds, ?_, ?_, Nat.le_refl _, fun _ _ _ => rfl, ?_, fun d => rfl, K.le_refl, fun _ _ _ h => .inl h, ⟨rfl, rfl, rfl⟩⟩
    · intro d nm ob e
      cases d with
      | zero => simp [objAt, look] at e
      | succ d =>
        have e' : objAt O d nm = some ob := by simpa [objAt] using e
        have := hw.own _ _ _ e'
        have e1 : (fun d' n => ρ1 (d + 1 + d') n) = fun d' n => ρ (d + d') n := by
          funext d' n
          rw [show d + 1 + d' = (d + d') + 1 by omega]
        rw [e1]
        simpa using this
    · intro d nm ob d' nm' ob' e e' b b' hbe
      cases d with
      | zero => simp [objAt, look] at e
      | succ d =>
        cases d' with
        | zero => simp [objAt, look] at e'
        | succ d' =>
          have := hw.inj d nm ob d' nm' ob' (by simpa [objAt] using e) (by simpa [objAt] using e') b b' hbe
          exact ⟨by omega, this.2⟩
    · intro nm ob e _
      simp [objAt, look] at e
  have hvl := hrep.length
  let b : Frame := { (default : Frame) with fn := f, kind := .normal }
  have henter : Frame.enter P f vs.toArray .normal = b.at { tmps := vs.toArray ++ Array.replicate (fn.ntmps - vs.toArray.size) undef, defers := [] } [.code code] := by
    simp [Frame.enter, Frame.at, hf, hb, b]
  have hinv : Inv (.of K ρ w) K ρ1 { σ := argσ 0 (D.shifts 1 args), S := [] :: O, n := n } { tmps := vs.toArray ++ Array.replicate (fn.ntmps - vs.toArray.size) undef, defers := [] } w := by
    refine ⟨hI, rfl, by simp; omega, fun t d e => ?_⟩
    rw [look_argσ] at e
    simp only [Nat.zero_le, if_true, Nat.sub_zero] at e
    have hsh : RepDL K ρ1 (shape ([] :: O)) vs (D.shifts 1 args) := by
      refine RepDL.shift (ρ := ρ1) (sh := shape ([] :: O)) 1 ?_
      have e1 : (fun d n => ρ1 (1 + d) n) = ρ := by funext d n; rw [Nat.add_comm]
      have e2 : (fun d n => shape ([] :: O) (1 + d) n) = shape O := by
        funext d n
        rw [Nat.add_comm]
        simp [shape, objAt]
      rw [e1, e2]
      exact hrep
    obtain ⟨y, hy, hr⟩ := hsh.get e
    have : (vs.toArray ++ Array.replicate (fn.ntmps - vs.toArray.size) undef).getD t undef = y := by
      have hlt : t < vs.length := (List.getElem?_eq_some_iff.1 hy).1
      simp only [Array.getD_eq_getD_getElem?]
      rw [Array.getElem?_append_left (by simpa using hlt)]
      simp [hy]
    rw [this]
    exact hr
  obtain ⟨v, w', fr, hp, hst, hfr, hlv⟩ := h (.of K ρ w) K ρ1 _ w b cs hinv rfl rfl
  rw [← henter] at hst
  exact ⟨.returned v, w', fr, ⟨v, rfl, hp⟩, hst, hfr, hlv⟩

theorem aspec_intro (hT : TOk P T) (hf : P.funcs[f]? = some fn) (hb : fn.body = some code) (hcall : ∀ args w, (callFunc f args).run P w = .ok (.enter f args) w) {args : List D} {O O' : List Heap} {res : D} {Hr : Heap} {n : Nat}
    (hn : fn.ntmps = n) (hlen : args.length ≤ n)
    (h : ∀ E, Rch { P := P, T := T, E := E, f := f, fn := fn, post := PostOf E res Hr O' } [.code code] { σ := argσ 0 (D.shifts 1 args), S := [] :: O, n := n }) : ASpec P f args O res Hr O' := aspec_stop [] hT hf hb hcall hn hlen h

/-- The results, as the state knows them. -/
def resOne (T : TT) (s : St) : ResultVar → Option D
  | .tmp t => some (s.get t)
  | .cell x ty => match exLoad T s ty (s.get x) with
    | .val d => some d
    | _ => none
def resAll (T : TT) (s : St) : List ResultVar → Option (List D)
  | [] => some []
  | r :: l => match resOne T s r, resAll T s l with
    | some d, some ds => some (d :: ds)
    | _, _ => none
def resD (T : TT) (s : St) (l : List ResultVar) : Option D := match resAll T s l with
  | some [d] => some d
  | some ds => some (.tup ds)
  | none => none

def rvOf (tmps : Array Value) : ResultVar → Sem Value
  | .tmp t => pure (tmps.getD t undef)
  | .cell x t => do loadVar t (← asAddr (tmps.getD x undef))
theorem results_eq (fn : Func) (tmps : Array Value) : results fn tmps = (do let vs ← fn.results.mapM (rvOf tmps); pure (if h : vs.size = 1 then vs[0] else .tuple vs)) := rfl
theorem mapM_cons (g : ResultVar → Sem Value) (r : ResultVar) (l : List ResultVar) {v : Value} {vs : List Value} {w : World} (h1 : (g r).run P w = .ok v w) (h2 : (l.mapM g).run P w = .ok vs w) : ((r :: l).mapM g).run P w = .ok (v :: vs) w := by
  simp only [List.mapM_cons, Sem.run_bind, h1, h2, Result.andThen_ok, Sem.run_pure]

theorem resAll_ok (hT : TOk P T) {E : Env} {K : Kn} {ρ : Nat → Nat → Loc} {s : St} {a : Act} {w : World} (hi : Inv E K ρ s a w) : ∀ (l : List ResultVar) {ds : List D}, resAll T s l = some ds →
    ∃ vs, (l.mapM (rvOf a.tmps)).run P w = .ok vs w ∧ RepDL K ρ (shape s.S) vs ds
  | [], ds, h => by
    simp only [resAll, Option.some.injEq] at h
    subst h
    exact ⟨[], by simp, .nil⟩
  | r :: l, ds, h => by
    simp only [resAll] at h
    cases h1 : resOne T s r with
    | none => simp [h1] at h
    | some d =>
      cases h2 : resAll T s l with
      | none => simp [h1, h2] at h
      | some ds' =>
        simp only [h1, h2, Option.some.injEq] at h
        subst h
        obtain ⟨vs, hv, hr⟩ := resAll_ok hT hi l h2
        cases r with
        | tmp t =>
          simp only [resOne, Option.some.injEq] at h1
          subst h1
          exact ⟨_ :: vs, mapM_cons _ _ _ rfl hv, .cons (hi.get t) hr⟩
        | cell x ty =>
          simp only [resOne] at h1
          split at h1
          · rename_i d' hd
            simp only [Option.some.injEq] at h1
            subst h1
            have hl := snd_load (dst := 0) hT hi.h (t := ty) (hi.get x)
            rw [hd] at hl
            obtain ⟨v, hrun, hrep⟩ := hl
            have hld : (rvOf a.tmps (.cell x ty)).run P w = .ok v w := by
              unfold rvOf
              cases hx : a.tmps.getD x undef with
              | pointer p =>
                cases p with
                | none => rw [hx] at hrun; simp [Instr.loadAt, Instr.sureAddr] at hrun
                | some p =>
                  rw [hx] at hrun
                  simp only [Instr.loadAt, Instr.sureAddr, Sem.run_bind, Sem.run_pure, Result.andThen_ok] at hrun
                  simp only [Sem.run_bind, hx, asAddr, Sem.run_pure, Result.andThen_ok]
                  exact hrun
              | _ => rw [hx] at hrun; simp [Instr.loadAt, Instr.sureAddr] at hrun
            exact ⟨v :: vs, mapM_cons _ _ _ hld hv, .cons hrep hr⟩
          · cases h1

theorem results_ok (hT : TOk P T) {E : Env} {K : Kn} {ρ : Nat → Nat → Loc} {s : St} {a : Act} {w : World} (hi : Inv E K ρ s a w) {d : D} (h : resD T s fn.results.toList = some d) :
    ∃ v, (results fn a.tmps).run P w = .ok v w ∧ RepD K ρ (shape s.S) v d := by
  unfold resD at h
  have key : ∀ ds, resAll T s fn.results.toList = some ds → ∃ vs : List Value, RepDL K ρ (shape s.S) vs ds ∧ (results fn a.tmps).run P w = .ok (if h : vs.toArray.size = 1 then vs.toArray[0] else .tuple vs.toArray) w := by
    intro ds hds
    obtain ⟨vs, hv, hr⟩ := resAll_ok (P := P) (w := w) hT hi _ hds
    refine ⟨vs, hr, ?_⟩
    rw [results_eq, Array.mapM_eq_mapM_toList]
    simp only [Sem.run_bind, Sem.run_map, hv, Result.andThen_ok, Sem.run_pure]
  split at h
  · rename_i d' hds
    simp only [Option.some.injEq] at h
    subst h
    obtain ⟨vs, hr, hrun⟩ := key _ hds
    cases hr with
    | cons r rs =>
      cases rs with
      | nil => exact ⟨_, hrun, r⟩
  · rename_i ds hne hds
    simp only [Option.some.injEq] at h
    subst h
    obtain ⟨vs, hr, hrun⟩ := key _ hds
    refine ⟨_, hrun, ?_⟩
    have hlen := hr.length
    rw [dif_neg]
    · exact .tup hr
    · intro h1
      have h2 : ds.length = 1 := by rw [← hlen]; simpa using h1
      obtain ⟨d', rfl⟩ := List.length_eq_one_iff.1 h2
      exact hne d' rfl
  · cases h

/-- Lists of what is taken over. -/
def takesB (H Hr : Heap) (l : Heap) : Prop := match l with
  | [] => True
  | (n, ob) :: r => (∃ o0, look H n = some o0 ∧ ob = o0.ret H Hr) ∧ takesB H Hr r
theorem takes_ok {H Hr : Heap} : ∀ {l : Heap}, takesB H Hr l → ∀ nm ob, look l nm = some ob → ∃ o0, look H nm = some o0 ∧ ob = o0.ret H Hr
  | [], _, nm, ob, e => by simp [look] at e
  | (n, o) :: r, h, nm, ob, e => by
    rw [look_cons] at e
    split at e
    · rename_i hn
      subst hn
      simp only [Option.some.injEq] at e
      subst e
      exact h.1
    · exact takes_ok h.2 nm ob e

/-- THE END. -/
theorem m_ret {c : Cx} (hT : TOk c.P c.T) {s : St} {res d : D} {Hr H : Heap} {O O' : List Heap} (hd : resD c.T s c.fn.results.toList = some d) (hS : s.S = H :: O) (ht : takesB H Hr Hr) (hr : d.ret H Hr = res) (hO : O = O')
    (hp : c.post = PostOf c.E res Hr O') : MSx c (.ret s) := by
  intro K ρ a w hi
  obtain ⟨v, hrun, hrep⟩ := results_ok (fn := c.fn) hT hi hd
  refine ⟨v, hrun, ?_⟩
  rw [hp]
  have hh := hi.h
  rw [hS] at hh hrep
  subst hO
  have htk : Takes H Hr := takes_ok ht
  exact ⟨_, ρ, hh.leave htk, by rw [← hr]; exact ret_rep hh htk hrep⟩

/-- A CUT: of a state, only this is remembered. -/
def Sub (s : St) : List (Nat × D) → Prop
  | [] => True
  | (t, d) :: r => s.get t = d ∧ Sub s r
def SubH (H : Heap) : Heap → Prop
  | [] => True
  | (n, o) :: r => look H n = some o ∧ SubH H r
theorem sub_ok {s : St} : ∀ {l : List (Nat × D)}, Sub s l → ∀ t d, look l t = some d → s.get t = d
  | [], _, t, d, e => by simp [look] at e
  | (k, x) :: r, h, t, d, e => by
    rw [look_cons] at e
    split at e
    · rename_i hk
      subst hk
      simp only [Option.some.injEq] at e
      subst e
      exact h.1
    · exact sub_ok h.2 t d e
theorem rch_cut {c : Cx} {todo : List Item} {s : St} {l : List (Nat × D)} (h : Rch c todo { σ := l, S := s.S, n := s.n }) (hs : Sub s l) : Rch c todo s := by
  intro K ρ a w b cs hi hb hk
  refine h K ρ a w b cs ⟨hi.h, hi.defers, hi.size, fun t d e => ?_⟩ hb hk
  have := hi.get t
  rwa [sub_ok hs t d e] at this
end
end Go.AI

/- A step that is taken on a part of the state leaves the rest as it is. -/
namespace Go.AI

def has (H : Heap) (nm : Nat) : Bool := match look H nm with
  | some _ => true
  | none => false
theorem has_iff {H : Heap} {nm : Nat} : has H nm = true ↔ ∃ ob, look H nm = some ob := by
  unfold has
  cases look H nm <;> simp
/- All references into the own frame go to these objects. -/
mutual
def D.within (p : Nat → Bool) : D → Bool
  | .own 0 nm _ _ => p nm
  | .osl 0 nm => p nm
  | .agg cs => D.withins p cs
  | .tup cs => D.withins p cs
  | .fn _ a b => D.withins p a && D.withins p b
  | _ => true
def D.withins (p : Nat → Bool) : List D → Bool
  | [] => true
  | d :: r => d.within p && D.withins p r
end
def Ob.within (p : Nat → Bool) : Ob → Bool
  | .box cs => D.withins p cs
  | .arr _ _ _ _ _ => true
  | .mp _ _ => true

section
variable {K K' : Kn} {ρ ρ' : Nat → Nat → Loc} {sh sh' : Nat → Nat → Option Sh} {p : Nat → Bool}
structure Moves (p : Nat → Bool) (K K' : Kn) (ρ ρ' : Nat → Nat → Loc) (sh sh' : Nat → Nat → Option Sh) : Prop where
  le : K.le K'
  z : ∀ nm x, p nm = true → sh 0 nm = some x → sh' 0 nm = some x ∧ ρ' 0 nm = ρ 0 nm
  s : ∀ d nm x, sh (d + 1) nm = some x → sh' (d + 1) nm = some x ∧ ρ' (d + 1) nm = ρ (d + 1) nm
mutual
theorem RepD.move (h : Moves p K K' ρ ρ' sh sh') : ∀ {v : Value} {d : D}, RepD K ρ sh v d → d.within p = true → RepD K' ρ' sh' v d
  | _, _, .dead x, _ => .dead x
  | _, _, .i r, _ => .i (r.mono h.le)
  | _, _, .agg r, e => .agg (RepDL.move h r (by simpa [D.within] using e))
  | _, _, .tup r, e => .tup (RepDL.move h r (by simpa [D.within] using e))
  | _, _, .box (dep := dep) e, hp => by
    cases dep with
    | zero => obtain ⟨h1, h2⟩ := h.z _ _ (by simpa [D.within] using hp) e; rw [← h2]; exact .box h1
    | succ dep => obtain ⟨h1, h2⟩ := h.s _ _ _ e; rw [← h2]; exact .box h1
  | _, _, .arr (dep := dep) e l, hp => by
    cases dep with
    | zero => obtain ⟨h1, h2⟩ := h.z _ _ (by simpa [D.within] using hp) e; rw [← h2]; exact .arr h1 l
    | succ dep => obtain ⟨h1, h2⟩ := h.s _ _ _ e; rw [← h2]; exact .arr h1 l
  | _, _, .osl (dep := dep) e, hp => by
    cases dep with
    | zero => obtain ⟨h1, h2⟩ := h.z _ _ (by simpa [D.within] using hp) e; rw [← h2]; exact .osl h1
    | succ dep => obtain ⟨h1, h2⟩ := h.s _ _ _ e; rw [← h2]; exact .osl h1
  | _, _, .omp (dep := dep) e, hp => by
    cases dep with
    | zero => obtain ⟨h1, h2⟩ := h.z _ _ (by simpa [D.within] using hp) e; rw [← h2]; exact .omp h1
    | succ dep => obtain ⟨h1, h2⟩ := h.s _ _ _ e; rw [← h2]; exact .omp h1
  | _, _, .xsl r e k l, _ => .xsl (r.mono h.le) e (fun j c hc => h.le _ _ _ (k j c hc)) l
  | _, _, .xnil, _ => .xnil
  | _, _, .bt, _ => .bt
  | _, _, .bf, _ => .bf
  | _, _, .fn r s, e => by
    simp only [D.within, Bool.and_eq_true] at e
    exact .fn (RepDL.move h r e.1) (RepDL.move h s e.2)
theorem RepDL.move (h : Moves p K K' ρ ρ' sh sh') : ∀ {v : List Value} {d : List D}, RepDL K ρ sh v d → D.withins p d = true → RepDL K' ρ' sh' v d
  | _, _, .nil, _ => .nil
  | _, _, .cons r rs, e => by
    simp only [D.withins, Bool.and_eq_true] at e
    exact .cons (RepD.move h r e.1) (RepDL.move h rs e.2)
end
theorem OwnAt.move {w w' : World} {l : Loc} {ob : Ob} (h : OwnAt K ρ sh w l ob) (hs : Moves p K K' ρ ρ' sh sh') (hp : ob.within p = true) (hw : backed l ob → w'.heap[l.block]? = w.heap[l.block]?) (hK : backed l ob → ∀ o, K' l.block o = K l.block o) :
    OwnAt K' ρ' sh' w' l ob := by
  cases ob with
  | mp kk m =>
    obtain ⟨⟨es, ck, h1, h2⟩, h3⟩ := h
    exact ⟨⟨es, ck, by rw [hw trivial]; exact h1, h2⟩, fun o => by rw [hK trivial]; exact h3 o⟩
  | box cs =>
    obtain ⟨c, T, h1, h2, h3⟩ := h
    exact ⟨c, T, by rw [hw trivial]; exact h1, h2.move hs hp, fun o => by rw [hK trivial]; exact h3 o⟩
  | arr ty es n xs wr =>
    obtain ⟨h1, h2, h2', h2'', h3⟩ := h
    refine ⟨h1, h2, h2', h2'', ?_⟩
    by_cases hc : l.base = none
    · rcases h3 with h3 | ⟨h4, _⟩
      · exact .inl h3
      · rw [hc] at h4; cases h4
    · rcases h3 with ⟨_, h3⟩ | ⟨h4, c, h5, h6, h7, h8, h9, h10⟩
      · exact absurd h3 hc
      · refine .inr ⟨h4, c, by rw [hw hc]; exact h5, h6, h7.mono hs.le, fun e o => by rw [hK hc]; exact h8 e o, fun o ho => by rw [hK hc]; exact h9 o ho, fun e o ho => by rw [hK hc]; exact h10 e o ho⟩
end

section
variable {E : Env} {K : Kn} {ρ : Nat → Nat → Loc} {HL Hv : Heap} {O : List Heap} {w : World}
def RestB (ρ : Nat → Nat → Loc) (HL Hv : Heap) (b : Nat) : Prop := ∃ nm ob, look HL nm = some ob ∧ look Hv nm = none ∧ backed (ρ 0 nm) ob ∧ (ρ 0 nm).block = b
/-- What a step on a part must leave as it is. -/
def fr (h : HInv E K ρ (HL :: O) w) (Hv : Heap) : Env where
  K0 := K
  ρ0 := E.ρ0
  w0 := w
  pr := fun b => E.pr b ∨ RestB ρ HL Hv b
  lt := by
    rintro b (hb | ⟨nm, ob, h1, _, h2, rfl⟩)
    · exact Nat.lt_of_lt_of_le (E.lt b hb) h.size
    · exact (h.own 0 nm ob (by simpa [objAt] using h1)).lt h2

theorem shape_part (hv : ∀ nm ob, look Hv nm = some ob → look HL nm = some ob) : Moves (has Hv) K K ρ ρ (shape (HL :: O)) (shape (Hv :: O)) := by
  refine ⟨K.le_refl, fun nm x hp e => ⟨?_, rfl⟩, fun d nm x e => ⟨by simpa [shape, objAt] using e, rfl⟩⟩
  obtain ⟨ob, h1⟩ := has_iff.1 hp
  have h2 := hv _ _ h1
  simp only [shape, objAt, List.getElem?_cons_zero, h2] at e
  simpa [shape, objAt, h1] using e

theorem HInv.part (h : HInv E K ρ (HL :: O) w) (hv : ∀ nm ob, look Hv nm = some ob → look HL nm = some ob) (hin : ∀ nm ob, look Hv nm = some ob → ob.within (has Hv) = true) : HInv (fr h Hv) K ρ (Hv :: O) w := by
  have hob : ∀ d nm ob, objAt (Hv :: O) d nm = some ob → objAt (HL :: O) d nm = some ob := by
    intro d nm ob e
    cases d with
    | zero => simpa [objAt] using hv nm ob (by simpa [objAt] using e)
    | succ d => simpa [objAt] using e
  refine ⟨h.holds, ?_, fun _ _ _ _ _ _ a b => h.inj _ _ _ _ _ _ (hob _ _ _ a) (hob _ _ _ b), Nat.le_refl _, fun _ _ _ => rfl, ?_, h.outer, K.le_refl, fun _ _ _ e => .inl e, ⟨rfl, rfl, rfl⟩⟩
  · intro d nm ob e
    have h0 := h.own _ _ _ (hob _ _ _ e)
    cases d with
    | zero =>
      have e' : look Hv nm = some ob := by simpa [objAt] using e
      have hm := shape_part (K := K) (ρ := fun d n => ρ (0 + d) n) (O := O) hv
      exact h0.move hm (hin _ _ e') (fun _ => rfl) (fun _ _ => rfl)
    | succ d => simpa using h0
  · rintro nm ob e hb (hp | ⟨n2, o2, h1, h2, h3, h4⟩)
    · exact h.loc _ _ (hob _ _ _ e) hb hp
    · have := (h.inj 0 n2 o2 0 nm ob (by simpa [objAt] using h1) (hob _ _ _ e) h3 hb h4).2
      subst this
      have e' : look Hv n2 = some ob := by simpa [objAt] using e
      rw [h2] at e'
      cases e'

/-- The part and the rest, put together again. -/
def Joins (HL Hv Hv' Hn : Heap) : Prop := ∀ nm, look Hn nm = match look Hv' nm with
  | some ob => some ob
  | none => match look Hv nm with
    | some _ => none
    | none => look HL nm
def butG (g : Option Nat) (nm : Nat) : Bool := match g with
  | none => true
  | some x => !Nat.beq x nm
theorem butG_ne {g : Option Nat} {nm : Nat} (h : butG g nm = true) : g ≠ some nm := by
  cases g with
  | none => simp
  | some x =>
    intro e
    simp only [Option.some.injEq] at e
    subst e
    simp [butG] at h

theorem HInv.join {K' : Kn} {ρ' : Nat → Nat → Loc} {Hv' Hn : Heap} {w' : World} {g : Option Nat} (h : HInv E K ρ (HL :: O) w) (h' : HInv (fr h Hv) K' ρ' (Hv' :: O) w') (hv : ∀ nm ob, look Hv nm = some ob → look HL nm = some ob)
    (hk : Keeps g ρ ρ' (shape (Hv :: O)) (shape (Hv' :: O))) (hfr : ∀ nm, has Hv' nm = true → has HL nm = true → has Hv nm = true) (hin : ∀ nm ob, look HL nm = some ob → look Hv nm = none → ob.within (butG g) = true) (hj : Joins HL Hv Hv' Hn) :
    ∃ ρ'', HInv E K' ρ'' (Hn :: O) w' ∧ Moves (butG g) K K' ρ ρ'' (shape (HL :: O)) (shape (Hn :: O)) ∧ Stays K' K' ρ' ρ'' (shape (Hv' :: O)) (shape (Hn :: O)) := by
  let ρ'' : Nat → Nat → Loc := fun d n => match d with
    | 0 => match look Hv' n with
      | some _ => ρ' 0 n
      | none => ρ 0 n
    | d + 1 => ρ' (d + 1) n
  have hout : ∀ d n, ρ' (d + 1) n = ρ (d + 1) n := fun d n => by rw [h'.outer, h.outer]; rfl
  have r0 : ∀ n ob, look Hv' n = some ob → ρ'' 0 n = ρ' 0 n := by intro n ob e; simp only [ρ'', e]
  have r1 : ∀ n, look Hv' n = none → ρ'' 0 n = ρ 0 n := by intro n e; simp only [ρ'', e]
  have r2 : ∀ d n, ρ'' (d + 1) n = ρ (d + 1) n := by intro d n; simp only [ρ'', hout]
  have hst : Stays K' K' ρ' ρ'' (shape (Hv' :: O)) (shape (Hn :: O)) := by
    refine ⟨K'.le_refl, fun d n x e => ?_, fun d n x e => ?_⟩
    · cases d with
      | zero =>
        cases hl : look Hv' n with
        | none => simp [shape, objAt, hl] at e
        | some ob =>
          have := hj n
          rw [hl] at this
          simpa [shape, objAt, hl, this] using e
      | succ d => simpa [shape, objAt] using e
    · cases d with
      | zero =>
        cases hl : look Hv' n with
        | none => simp [shape, objAt, hl] at e
        | some ob => exact r0 _ _ hl
      | succ d => rfl
  have hmv : Moves (butG g) K K' ρ ρ'' (shape (HL :: O)) (shape (Hn :: O)) := by
    refine ⟨h'.Kle, fun nm x hp e => ?_, fun d nm x e => ⟨by simpa [shape, objAt] using e, r2 _ _⟩⟩
    have hp2 := butG_ne hp
    have hp1 : has HL nm = true := by
      cases hx : look HL nm with
      | none => simp [shape, objAt, hx] at e
      | some ob => exact has_iff.2 ⟨_, hx⟩
    cases hl : look Hv nm with
    | some ob =>
      have e1 : shape (Hv :: O) 0 nm = some x := by
        have := hv _ _ hl
        simp only [shape, objAt, List.getElem?_cons_zero, this] at e
        simpa [shape, objAt, hl] using e
      obtain ⟨a1, a2⟩ := hk 0 nm x (.inr hp2) e1
      refine ⟨hst.shp _ _ _ a1, ?_⟩
      rw [hst.loc _ _ _ a1, a2]
    | none =>
      have h1 : look Hv' nm = none := by
        cases hc : look Hv' nm with
        | none => rfl
        | some ob =>
          have := hfr nm (has_iff.2 ⟨_, hc⟩) hp1
          obtain ⟨_, h2⟩ := has_iff.1 this
          rw [hl] at h2; cases h2
      have := hj nm
      rw [h1, hl] at this
      refine ⟨?_, r1 _ h1⟩
      simp only [shape, objAt, List.getElem?_cons_zero] at e ⊢
      rw [this]; exact e
  have hrest : ∀ b, RestB ρ HL Hv b → w'.heap[b]? = w.heap[b]? ∧ ∀ o, K' b o = K b o := by
    intro b hb
    obtain ⟨nm, ob, h1, h2, h3, h4⟩ := id hb
    refine ⟨?_, fun o => ?_⟩
    · refine h'.old b (.inr hb) fun d n o2 e hbk hbe => ?_
      have e1 : objAt (HL :: O) (d + 1) n = some o2 := by simpa [objAt] using e
      rw [hout] at hbk hbe
      have := (h.inj 0 nm ob (d + 1) n o2 (by simpa [objAt] using h1) e1 h3 hbk (by rw [h4, hbe])).1
      omega
    · cases hK : K' b o with
      | some x =>
        rcases h'.Knew _ _ _ hK with h5 | h5
        · exact h5.symm
        · exact absurd (Or.inr hb) h5
      | none =>
        cases hK2 : K b o with
        | none => rfl
        | some x => have := h'.Kle _ _ _ hK2; rw [hK] at this; cases this
  have hcase : ∀ n ob, look Hn n = some ob → (look Hv' n = some ob ∧ ρ'' 0 n = ρ' 0 n) ∨ (look Hv' n = none ∧ look Hv n = none ∧ look HL n = some ob ∧ ρ'' 0 n = ρ 0 n) := by
    intro n ob e
    rw [hj n] at e
    cases h1 : look Hv' n with
    | some o1 =>
      rw [h1] at e
      exact .inl ⟨e, r0 _ _ h1⟩
    | none =>
      rw [h1] at e
      cases h2 : look Hv n with
      | some _ => rw [h2] at e; cases e
      | none =>
        rw [h2] at e
        exact .inr ⟨rfl, rfl, e, r1 _ h1⟩
  refine ⟨ρ'', ⟨h'.holds, ?_, ?_, Nat.le_trans h.size h'.size, ?_, ?_, ?_, fun b o x e => h'.Kle _ _ _ (h.Kle _ _ _ e), ?_, ?_⟩, hmv, hst⟩
  · intro d n ob e
    cases d with
    | zero =>
      have e' : look Hn n = some ob := by simpa [objAt] using e
      have e0 : (fun d n => ρ'' (0 + d) n) = ρ'' := by funext d n; rw [Nat.zero_add]
      rw [e0]
      rcases hcase n ob e' with ⟨h1, h2⟩ | ⟨h1, h2, h3, h4⟩
      · rw [h2]
        have h0 := h'.own 0 n ob (by simpa [objAt] using h1)
        have e1 : (fun d n => ρ' (0 + d) n) = ρ' := by funext d n; rw [Nat.zero_add]
        rw [e1] at h0
        exact h0.stays hst (fun _ => rfl) (fun _ _ => rfl)
      · rw [h4]
        have h0 := h.own 0 n ob (by simpa [objAt] using h3)
        have e1 : (fun d n => ρ (0 + d) n) = ρ := by funext d n; rw [Nat.zero_add]
        rw [e1] at h0
        refine h0.move hmv (hin _ _ h3 h2) (fun hb => ?_) (fun hb => ?_)
        · exact (hrest _ ⟨n, ob, h3, h2, hb, rfl⟩).1
        · exact (hrest _ ⟨n, ob, h3, h2, hb, rfl⟩).2
    | succ d =>
      have h0 := h'.own (d + 1) n ob (by simpa [objAt] using e)
      have e1 : (fun d' n => ρ'' (d + 1 + d') n) = fun d' n => ρ' (d + 1 + d') n := by
        funext d' n
        rw [show d + 1 + d' = (d + d') + 1 by omega]
      rw [e1, r2, ← hout]
      simpa using h0
  · intro d n ob d' n' ob' e e' b b' hbe
    cases d with
    | zero =>
      cases d' with
      | zero =>
        refine ⟨rfl, ?_⟩
        rcases hcase n ob (by simpa [objAt] using e) with ⟨h1, h2⟩ | ⟨h1, h2, h3, h4⟩ <;> rcases hcase n' ob' (by simpa [objAt] using e') with ⟨k1, k2⟩ | ⟨k1, k2, k3, k4⟩
        · rw [h2] at b hbe; rw [k2] at b' hbe
          exact (h'.inj 0 n ob 0 n' ob' (by simpa [objAt] using h1) (by simpa [objAt] using k1) b b' hbe).2
        · rw [h2] at b hbe; rw [k4] at b' hbe
          exact absurd (Or.inr ⟨n', ob', k3, k2, b', hbe.symm⟩) (h'.loc n ob (by simpa [objAt] using h1) b)
        · rw [h4] at b hbe; rw [k2] at b' hbe
          exact absurd (Or.inr ⟨n, ob, h3, h2, b, hbe⟩) (h'.loc n' ob' (by simpa [objAt] using k1) b')
        · rw [h4] at b hbe; rw [k4] at b' hbe
          exact (h.inj 0 n ob 0 n' ob' (by simpa [objAt] using h3) (by simpa [objAt] using k3) b b' hbe).2
      | succ d' =>
        exfalso
        have e2 : objAt (HL :: O) (d' + 1) n' = some ob' := by simpa [objAt] using e'
        have e3 : objAt (Hv' :: O) (d' + 1) n' = some ob' := by simpa [objAt] using e'
        rcases hcase n ob (by simpa [objAt] using e) with ⟨h1, h2⟩ | ⟨h1, h2, h3, h4⟩
        · rw [h2] at b hbe; rw [r2, ← hout] at b' hbe
          have := (h'.inj 0 n ob (d' + 1) n' ob' (by simpa [objAt] using h1) e3 b b' hbe).1
          omega
        · rw [h4] at b hbe; rw [r2] at b' hbe
          have := (h.inj 0 n ob (d' + 1) n' ob' (by simpa [objAt] using h3) e2 b b' hbe).1
          omega
    | succ d =>
      have e2 : objAt (HL :: O) (d + 1) n = some ob := by simpa [objAt] using e
      have e3 : objAt (Hv' :: O) (d + 1) n = some ob := by simpa [objAt] using e
      cases d' with
      | zero =>
        exfalso
        rcases hcase n' ob' (by simpa [objAt] using e') with ⟨h1, h2⟩ | ⟨h1, h2, h3, h4⟩
        · rw [h2] at b' hbe; rw [r2, ← hout] at b hbe
          have := (h'.inj (d + 1) n ob 0 n' ob' e3 (by simpa [objAt] using h1) b b' hbe).1
          omega
        · rw [h4] at b' hbe; rw [r2] at b hbe
          have := (h.inj (d + 1) n ob 0 n' ob' e2 (by simpa [objAt] using h3) b b' hbe).1
          omega
      | succ d' =>
        rw [r2] at b b' hbe
        rw [r2] at hbe
        exact h.inj _ _ _ _ _ _ e2 (by simpa [objAt] using e') b b' hbe
  · intro b hb hno
    have h1 := h'.old b (.inl hb) (by
      intro d n ob e hbk
      have := hno d n ob (by simpa [objAt] using e) (by rw [r2, ← hout]; exact hbk)
      rw [r2, ← hout] at this
      exact this)
    rw [h1]
    show w.heap[b]? = _
    refine h.old b hb fun d n ob e hbk => ?_
    have := hno d n ob (by simpa [objAt] using e) (by rw [r2]; exact hbk)
    rwa [r2] at this
  · intro n ob e b
    rcases hcase n ob (by simpa [objAt] using e) with ⟨h1, h2⟩ | ⟨h1, h2, h3, h4⟩
    · rw [h2] at b ⊢
      exact fun hp => h'.loc n ob (by simpa [objAt] using h1) b (.inl hp)
    · rw [h4] at b ⊢
      exact h.loc n ob (by simpa [objAt] using h3) b
  · intro d
    funext n
    rw [r2, h.outer]
  · intro b o x e
    rcases h'.Knew _ _ _ e with h1 | h1
    · exact h.Knew _ _ _ h1
    · exact .inr fun hp => h1 (.inl hp)
  · obtain ⟨a1, a2, a3⟩ := h'.rest
    obtain ⟨b1, b2, b3⟩ := h.rest
    exact ⟨a1.trans b1, a2.trans b2, a3.trans b3⟩
end
end Go.AI
