/- The layer of abstract runs, part 32. -/
import Derived.Test.YtmhllkmceipdcaaGreatDoorYewZE
set_option linter.unusedSimpArgs false
set_option linter.unusedVariables false
set_option linter.all false

namespace Go.AI
def CoI (d e : I) : Prop := ∀ K v, Rep K v d → Rep K v e
theorem CoI.refl (d : I) : CoI d d := fun _ _ h => h
theorem coI_nil {es : Nat} : CoI (.v (.slice none 0 0)) (.sl es 0 []) := by
  intro K v h
  cases h
  exact .nil
inductive CoL : List I → List I → Prop
  | nil : CoL [] []
  | cons {d e : I} {xs ys : List I} : CoI d e → CoL xs ys → CoL (d :: xs) (e :: ys)
theorem CoL.refl : ∀ l : List I, CoL l l
  | [] => .nil
  | d :: r => .cons (CoI.refl d) (CoL.refl r)
theorem CoL.rep {K : Kn} {xs ys : List I} (h : CoL xs ys) : ∀ {vs : List Value}, RepL K vs xs → RepL K vs ys := by
  induction h with
  | nil => intro vs h; exact h
  | cons h1 _ ih =>
    intro vs h
    cases h with
    | cons a b => exact .cons (h1 _ _ a) (ih b)
theorem CoL.length {xs ys : List I} (h : CoL xs ys) : xs.length = ys.length := by
  induction h with
  | nil => rfl
  | cons _ _ ih => simp [ih]
theorem CoL.append {a b c d : List I} (h : CoL a b) (h' : CoL c d) : CoL (a ++ c) (b ++ d) := by
  induction h with
  | nil => exact h'
  | cons h1 _ ih => exact .cons h1 ih
inductive CoLL : List (List I) → List (List I) → Prop
  | nil : CoLL [] []
  | cons {d e : List I} {xs ys : List (List I)} : CoL d e → CoLL xs ys → CoLL (d :: xs) (e :: ys)
theorem CoLL.refl : ∀ l : List (List I), CoLL l l
  | [] => .nil
  | d :: r => .cons (CoL.refl d) (CoLL.refl r)
theorem CoLL.flat {xs ys : List (List I)} (h : CoLL xs ys) : CoL xs.flatten ys.flatten := by
  induction h with
  | nil => exact .nil
  | cons h1 _ ih => simpa using h1.append ih
theorem CoLL.length {xs ys : List (List I)} (h : CoLL xs ys) : xs.length = ys.length := by
  induction h with
  | nil => rfl
  | cons _ _ ih => simp [ih]
theorem CoLL.elems {xs ys : List (List I)} {es : Nat} (h : CoLL xs ys) (hl : ∀ d ∈ xs, d.length = es) : ∀ d ∈ ys, d.length = es := by
  induction h with
  | nil => intro d hd; simp at hd
  | cons h1 _ ih =>
    intro d hd
    rcases List.mem_cons.1 hd with rfl | hd
    · rw [← h1.length]; exact hl _ (by simp)
    · exact ih (fun d hd => hl d (by simp [hd])) d hd
theorem coI_sl {es n : Nat} {xs ys : List (List I)} (h : CoLL xs ys) : CoI (.sl es n xs) (.sl es n ys) := by
  intro K v hr
  cases hr with
  | nil => cases h; exact .nil
  | sl a b c d e => exact .sl (h.flat.rep a) (h.elems b) c d (by rw [← h.length]; exact e)
def CoD (d e : D) : Prop := ∀ K ρ sh v, RepD K ρ sh v d → RepD K ρ sh v e
theorem CoD.refl (d : D) : CoD d d := fun _ _ _ _ h => h
theorem coD_i {d e : I} (h : CoI d e) : CoD (.i d) (.i e) := by
  intro K ρ sh v hr
  cases hr with
  | i r => exact .i (h _ _ r)
inductive CoDL : List D → List D → Prop
  | nil : CoDL [] []
  | cons {d e : D} {xs ys : List D} : CoD d e → CoDL xs ys → CoDL (d :: xs) (e :: ys)
theorem CoDL.refl : ∀ l : List D, CoDL l l
  | [] => .nil
  | d :: r => .cons (CoD.refl d) (CoDL.refl r)
theorem CoDL.rep {K : Kn} {ρ : Nat → Nat → Loc} {sh : Nat → Nat → Option Sh} {xs ys : List D} (h : CoDL xs ys) : ∀ {vs : List Value}, RepDL K ρ sh vs xs → RepDL K ρ sh vs ys := by
  induction h with
  | nil => intro vs h; exact h
  | cons h1 _ ih =>
    intro vs h
    cases h with
    | cons a b => exact .cons (h1 _ _ _ _ a) (ih b)
theorem coD_agg {xs ys : List D} (h : CoDL xs ys) : CoD (.agg xs) (.agg ys) := by
  intro K ρ sh v hr
  cases hr with
  | agg r => exact .agg (h.rep r)
theorem coD_tup {xs ys : List D} (h : CoDL xs ys) : CoD (.tup xs) (.tup ys) := by
  intro K ρ sh v hr
  cases hr with
  | tup r => exact .tup (h.rep r)
theorem ASpec.co {P : Program} {f : FuncId} {args args' : List D} {O O' : List Heap} {res : D} {Hr : Heap} (h : ASpec P f args' O res Hr O') (hc : CoDL args args') : ASpec P f args O res Hr O' :=
  fun E K ρ w vs hw hr => h E K ρ w vs hw (hc.rep hr)
section
variable {c : Cx} {s : St}
theorem m_ret_co {hT : TOk c.P c.T} {res d r : D} {Hr H : Heap} {O O' : List Heap} (hp : c.post = PostOf c.E res Hr O') (hd : resD c.T s c.fn.results.toList = some d) (hS : s.S = H :: O) (ht : takesB H Hr Hr) (hr : d.ret H Hr = r) (hO : O = O')
    (he : CoD r res) : MSx c (.ret s) := by
  have h := m_ret (c := { c with post := PostOf c.E r Hr O' }) hT hd hS ht hr hO rfl
  intro K ρ a w hi
  obtain ⟨v, hv, K', ρ', h1, h2⟩ := h K ρ a w hi
  refine ⟨v, hv, ?_⟩
  rw [hp]
  exact ⟨K', ρ', h1, he _ _ _ _ h2⟩
end
end Go.AI
