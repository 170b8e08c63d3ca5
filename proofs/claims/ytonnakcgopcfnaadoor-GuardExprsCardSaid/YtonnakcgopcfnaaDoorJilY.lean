/- The layer of abstract runs, part 25. -/
import Derived.Test.YtonnakcgopcfnaaDoorJilX
set_option linter.unusedSimpArgs false
set_option linter.unusedVariables false
set_option linter.all false

/- The machine in a region whose order is drawn. -/
namespace Go.AI

inductive MD where
  | at (o : Oper) (rest : List Oper) (x : SH) (acc : List Pl) (a : Ask)
  | know (b : Bool) (t : Nat) (o : Oper) (rest : List Oper) (x : SH) (acc : List Pl)
  | modS (o : Oper) (rest : List Oper) (x : SH) (acc : List Pl) (s' : St)
  | done (x : SH) (acc : List Pl)
  | bad

def isSrc (i : Nat) : List Oper → Bool
  | [] => false
  | o :: r => match o.guard with
    | some (j, _) => bif Nat.beq j i then true else isSrc i r
    | none => isSrc i r
def Pl.one (t : Nat) (d : D) : Pl := ⟨[(t, d)], [], none⟩
def asBool : D → Option Bool
  | .i (.v (.bool b)) => some b
  | _ => none

def forceAs {α β : Type} : List (Nat × α) → (List (Nat × α) → β) → β
  | [], k => k []
  | (t, d) :: r, k => forceAs r fun r' => k ((t, d) :: r')
theorem forceAs_eq {α β : Type} : ∀ (l : List (Nat × α)) (k : List (Nat × α) → β), forceAs l k = k l
  | [], k => rfl
  | (t, d) :: r, k => by simp only [forceAs, forceAs_eq r]
def forceX {β : Type} (x : SH) (k : SH → β) : β := forceAs x.1 fun a => forceAs x.2 fun b => k (a, b)
theorem forceX_eq {β : Type} (x : SH) (k : SH → β) : forceX x k = k x := by simp only [forceX, forceAs_eq]
section
variable (T : TT) (ops : Array Oper) (O : List Heap) (n : Nat)
abbrev vw (o : Oper) (x : SH) : St := St.of O n (viewOf ops o x)
end

def PQ (O : List Heap) (n : Nat) (v : SH) (p : Pl) (s' : St) : Prop :=
  s'.S = (p.adds ++ rmv p.rem v.2) :: O ∧ s'.n = n ∧
    ∀ t d, look p.sets t = some d → d = .dead ∨ look s'.σ t = some d ∨ (d = .bt ∧ look s'.σ t = some (.i (.v (.bool true)))) ∨ (d = .bf ∧ look s'.σ t = some (.i (.v (.bool false))))

theorem stepOK_of {c : Cx} {ops : Array Oper} {O : List Heap} {n : Nat} {o : Oper} {v : SH} {p : Pl} (hw : wantedD ops (St.of O n v) o = some true) (hg : p.rem = goneOf (St.of O n v) o)
    (h : ∀ E, EOk c.E E O → Stp { c with E := E } o (St.of O n v) (PQ O n v p)) : StepOK c ops O n o v p := by
  refine .inr ⟨hw, fun E hE K ρ a w hi next Qe hn => h E hE K ρ a w hi next Qe fun val w' s' K' ρ' hle hk hi' hq => ?_⟩
  obtain ⟨h1, h2, h3⟩ := hq
  have hh := hi'.h
  rw [h1] at hh hk
  refine hn val w' p.sets K' ρ' hle (fun d n x e1 e2 => hk d n x (by rw [← hg]; exact e1) e2) ⟨hh, hi'.defers, by rw [hi'.size, h2], fun t d e => ?_⟩ fun t d e => .inr e
  have hsl := fun d (e : look s'.σ t = some d) => hi'.slots t d e
  rw [h1] at hsl
  rcases h3 t d e with rfl | h4 | ⟨rfl, h4⟩ | ⟨rfl, h4⟩
  · exact .dead _
  · exact hsl _ h4
  · have := inv_v (hsl _ h4)
    rw [this]; exact .bt
  · have := inv_v (hsl _ h4)
    rw [this]; exact .bf

section
variable (c : Cx) (ops : Array Oper) (O : List Heap) (n : Nat) (F : SH → List Pl → Prop)
def GD (rest : List Oper) (x : SH) (acc : List Pl) : Prop := ∃ qs, ChainS c ops O n rest qs x ∧ F (foldP qs x) (acc ++ qs)
def DG (o : Oper) (rest : List Oper) (x : SH) (acc : List Pl) (a : Ask) : Prop :=
  ∃ p, p.rem = goneOf (vw ops O n o x) o ∧ (∀ E, EOk c.E E O → Does { c with E := E } o (vw ops O n o x) (PQ O n (viewOf ops o x) p) a) ∧ GD c ops O n F rest (p.ap x) (acc ++ [p])
end

section
variable {c : Cx} {ops : Array Oper} {O : List Heap} {n : Nat} {F : SH → List Pl → Prop}
theorem gd_cons {o : Oper} {rest : List Oper} {x : SH} {acc : List Pl} {p : Pl} (hs : StepOK c ops O n o (viewOf ops o x) p) (h : GD c ops O n F rest (p.ap x) (acc ++ [p])) : GD c ops O n F (o :: rest) x acc := by
  obtain ⟨qs, h1, h2⟩ := h
  refine ⟨p :: qs, ⟨hs, h1⟩, ?_⟩
  rw [List.append_assoc] at h2
  exact h2
theorem look_one {α : Type} {t t' : Nat} {d d' : α} (h : look [(t, d)] t' = some d') : t = t' ∧ d = d' := by
  rw [look_cons] at h
  split at h
  · rename_i e; exact ⟨e, by simpa using h⟩
  · simp [look] at h
variable (hT : TOk c.P c.T)
include hT
variable {o : Oper} {rest : List Oper} {x : SH} {acc : List Pl}
end

section
variable {c : Cx} {ops : Array Oper} {O : List Heap} {n : Nat} {F : SH → List Pl → Prop} (hT : TOk c.P c.T) {o : Oper} {rest : List Oper} {x : SH} {acc : List Pl}
include hT
variable (hfn : c.P.funcs[c.f]? = some c.fn)
include hfn
end
end Go.AI
