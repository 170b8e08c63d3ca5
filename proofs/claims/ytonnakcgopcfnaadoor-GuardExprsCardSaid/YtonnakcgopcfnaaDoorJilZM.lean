/- The layer of abstract runs, part 39. -/
import Derived.Test.YtonnakcgopcfnaaDoorJilZL
import Derived.KernelRfl
import Derived.Test.YtonnakcgopcfnaaDoorTie
import Derived.Test.YtonnakcgopcfnaaDoorCards
import Derived.ProofKit
import Derived.LaidMore
import Derived.OpenShut
import Derived.Lay
import Derived.SevenTiedAt
import Derived.Stop.Joined
import Derived.Stop.LaidErr
import Derived.Lib.LaidTab
import Derived.WideKeyArgs
import Derived.Lib.SmallJoins
import Derived.Deep.Slices
set_option linter.unusedSimpArgs false
set_option linter.unusedVariables false
set_option linter.all false

namespace Go.AI
open Go.Proofs
set_option maxRecDepth 20000
abbrev largeB (a b : Int) : Bool := decide (b < a) || decide (a < -b)
mutual
/-- The value of an expression; false if it overflows. -/
def evalR (vals : List Int) : Ex → Int × Bool
  | .mk op v ix args =>
    if op = 0 then (v, true) else if op = 1 then (vals.getD ix.toNat 0, true) else if op = 13 then evalI vals args else
    match evalRs vals args with
    | none => (0, false)
    | some l => (applyR op l, !largeB (applyR op l) 1073741824)
def evalI (vals : List Int) : List Ex → Int × Bool
  | [c, a, b] => if (evalR vals c).2 = false then (0, false) else if (evalR vals c).1 = 1 then evalR vals a else evalR vals b
  | _ => (0, false)
def evalRs (vals : List Int) : List Ex → Option (List Int)
  | [] => some []
  | e :: r => if (evalR vals e).2 = false then none else (evalRs vals r).map ((evalR vals e).1 :: ·)
end
/-- Values, of types. -/
def Ty2 : List Int → List Int → Prop
  | [], [] => True
  | x :: xs, k :: ks => (-1073741824 ≤ x ∧ x ≤ 1073741824) ∧ (k = 2 → x = 0 ∨ x = 1) ∧ Ty2 xs ks
  | _, _ => False
theorem tr01 (p : Prop) [Decidable p] : tr p = 0 ∨ tr p = 1 := by unfold tr; split <;> simp
theorem largeB_false {a b : Int} (h : (!largeB a b) = true) : -b ≤ a ∧ a ≤ b := by
  have := orF (notT h)
  omega
theorem kind_app {op : Int} {ks l : List Int} (ha : (arity op).2 = true) (h0 : op ≠ 0) (h1 : op ≠ 1) (h13 : op ≠ 13) (hlen : (ks.length : Int) = (arity op).1) (ht : Ty2 l ks) (hk : kindOp op ks = 2) : applyR op l = 0 ∨ applyR op l = 1 := by
  have two : ∀ {p : Nat}, (ks.length : Int) = 2 → ∃ a b k1 k2, l = [a, b] ∧ ks = [k1, k2] := by
    intro _ h
    match ks, l, ht with
    | [], _, _ => simp at h
    | [_], _, _ => simp at h
    | [k1, k2], [a, b], _ => exact ⟨a, b, k1, k2, rfl, rfl⟩
    | _ :: _ :: _ :: _, _, _ => simp at h; omega
  have one : (ks.length : Int) = 1 → ∃ a k1, l = [a] ∧ ks = [k1] := by
    intro h
    match ks, l, ht with
    | [], _, _ => simp at h
    | [k1], [a], _ => exact ⟨a, k1, rfl, rfl⟩
    | _ :: _ :: _, _, _ => simp at h; omega
  rcases arity_cases ha with h | h | h | h | h
  · omega
  · unfold kindOp at hk
    rw [if_neg (by omega), if_pos h] at hk
    split at hk <;> cases hk
  · obtain ⟨a, b, k1, k2, rfl, rfl⟩ := two (p := 0) (by rcases h with rfl | rfl | rfl | rfl <;> exact hlen)
    rcases h with rfl | rfl | rfl | rfl <;> exact tr01 _
  · unfold kindOp at hk
    rw [if_neg (by omega), if_neg (by omega), if_neg (by omega), if_pos h] at hk
    split at hk
    · rename_i hall
      rcases h with rfl | rfl | rfl
      · obtain ⟨a, k1, rfl, rfl⟩ := one hlen
        simp only [List.all_cons, List.all_nil, Bool.and_true, decide_eq_true_eq] at hall
        obtain ⟨-, h2, -⟩ := ht
        rcases h2 hall with rfl | rfl <;> decide
      all_goals
        obtain ⟨a, b, k1, k2, rfl, rfl⟩ := two (p := 0) hlen
        simp only [List.all_cons, List.all_nil, Bool.and_true, Bool.and_eq_true, decide_eq_true_eq] at hall
        obtain ⟨-, h2, -, h3, -⟩ := ht
        rcases h2 hall.1 with rfl | rfl <;> rcases h3 hall.2 with rfl | rfl <;> decide
    · cases hk
  · omega
theorem kindOp_ite {ks : List Int} (h : kindOp 13 ks ≠ 0) : ks.getD 0 0 = 2 ∧ ks.getD 1 0 = ks.getD 2 0 ∧ kindOp 13 ks = ks.getD 1 0 := by
  unfold kindOp at h ⊢
  rw [if_neg (by omega), if_neg (by omega), if_neg (by omega), if_neg (by omega), if_pos rfl] at h ⊢
  split at h
  · rename_i h1
    exact ⟨h1.1, h1.2, by rw [if_pos h1]⟩
  · exact absurd rfl h
theorem kindRs_nz {args : List Ex} {ks : List Int} (h : kindRs args = some ks) : ∀ e ∈ args, kindR e ≠ 0 := by
  induction args generalizing ks with
  | nil => simp
  | cons e r ih =>
    simp only [kindRs] at h
    split at h
    · cases h
    · rename_i h1
      cases hk : kindRs r with
      | none => simp [hk] at h
      | some l =>
        intro x hx
        rcases List.mem_cons.1 hx with rfl | hx
        · exact h1
        · exact ih hk x hx
theorem evalRs_len {vals : List Int} {args : List Ex} {l : List Int} (h : evalRs vals args = some l) : l.length = args.length := by
  induction args generalizing l with
  | nil => simp only [evalRs, Option.some.injEq] at h; subst h; rfl
  | cons e r ih =>
    simp only [evalRs] at h
    split at h
    · cases h
    · cases hk : evalRs vals r with
      | none => simp [hk] at h
      | some l' =>
        simp only [hk, Option.map_some, Option.some.injEq] at h
        subst h
        simp [ih hk]
theorem Ty2.len : ∀ {l ks : List Int}, Ty2 l ks → l.length = ks.length
  | [], [], _ => rfl
  | _ :: xs, _ :: ks, h => by simp [Ty2.len h.2.2]
  | [], _ :: _, h => h.elim
  | _ :: _, [], h => h.elim
section
variable {n : Int} {vals : List Int} (hn : (vals.length : Int) = n) (hv : ∀ x ∈ vals, -65536 ≤ x ∧ x ≤ 65536)
include hn hv
theorem eval_ty : ∀ (N : Nat) (x : Ex), SizeOf.sizeOf x < N → wfE n x → kindR x ≠ 0 → (evalR vals x).2 = true → (-1073741824 ≤ (evalR vals x).1 ∧ (evalR vals x).1 ≤ 1073741824) ∧ (kindR x = 2 → (evalR vals x).1 = 0 ∨ (evalR vals x).1 = 1) := by
  intro N
  induction N with
  | zero => intro x h; omega
  | succ N ihN =>
    intro x hs hwf hk he
    obtain ⟨op, v, ix, args⟩ := x
    simp only [wfE] at hwf
    obtain ⟨hform, hwf⟩ := hwf
    obtain ⟨ha, hb, -, hd⟩ := formHead_zero hform
    have hch : ∀ e ∈ args, kindR e ≠ 0 → (evalR vals e).2 = true → (-1073741824 ≤ (evalR vals e).1 ∧ (evalR vals e).1 ≤ 1073741824) ∧ (kindR e = 2 → (evalR vals e).1 = 0 ∨ (evalR vals e).1 = 1) := by
      intro e hm
      have := List.sizeOf_lt_of_mem hm
      simp only [Ex.mk.sizeOf_spec] at hs
      exact ihN e (by omega) (wfEs_mem hwf e hm)
    simp only [kindR] at hk ⊢
    cases hks : kindRs args with
    | none => rw [hks] at hk; exact absurd rfl hk
    | some ks =>
      rw [hks] at hk
      simp only at hk ⊢
      have hkl := kindRs_len hks
      simp only [evalR] at he ⊢
      by_cases h0 : op = 0
      · subst h0
        simp only [if_pos] at he ⊢
        refine ⟨by omega, fun h => ?_⟩
        simp [kindOp] at h
      rw [if_neg h0] at he ⊢
      by_cases h1 : op = 1
      · subst h1
        simp only [if_pos] at he ⊢
        refine ⟨?_, fun h => by simp [kindOp] at h⟩
        have hix : ix.toNat < vals.length := by omega
        have := hv _ (List.getElem_mem hix)
        rw [List.getD_eq_getElem?_getD, List.getElem?_eq_getElem hix]
        simp only [Option.getD_some]
        omega
      rw [if_neg h1] at he ⊢
      by_cases h13 : op = 13
      · subst h13
        simp only [if_pos] at he ⊢
        have h3 : args.length = 3 := by have : (args.length : Int) = 3 := hb; omega
        obtain ⟨hk0, hk12, hkr⟩ := kindOp_ite hk
        match args, h3 with
        | [c, a, b], _ =>
          have hnz := kindRs_nz hks
          have hkk : ks = [kindR c, kindR a, kindR b] := by
            simp only [kindRs, if_neg (hnz c (by simp)), if_neg (hnz a (by simp)), if_neg (hnz b (by simp)), Option.map_some, Option.some.injEq] at hks
            exact hks.symm
          subst hkk
          simp only [List.getD_cons_zero, List.getD_cons_succ] at hk0 hk12 hkr
          rw [hkr]
          simp only [evalI] at he ⊢
          by_cases hc : (evalR vals c).2 = false
          · rw [if_pos hc] at he; cases he
          rw [if_neg hc] at he ⊢
          split at he
          · rename_i h4
            rw [if_pos h4]
            exact hch a (by simp) (hnz a (by simp)) he
          · rename_i h4
            rw [if_neg h4, hk12]
            exact hch b (by simp) (hnz b (by simp)) he
      rw [if_neg h13] at he ⊢
      cases hl : evalRs vals args with
      | none => rw [hl] at he; cases he
      | some l =>
        rw [hl] at he
        simp only at he ⊢
        have hty : Ty2 l ks := by
          clear hb hform hk hd he hs hkl
          induction args generalizing l ks with
          | nil =>
            simp only [evalRs, Option.some.injEq] at hl
            simp only [kindRs, Option.some.injEq] at hks
            subst hl; subst hks
            trivial
          | cons e r ih =>
            simp only [evalRs] at hl
            simp only [kindRs] at hks
            split at hl
            · cases hl
            rename_i e1
            split at hks
            · cases hks
            rename_i e2
            cases hk1 : kindRs r with
            | none => simp [hk1] at hks
            | some ks' =>
              cases hl1 : evalRs vals r with
              | none => simp [hl1] at hl
              | some l' =>
                simp only [hk1, Option.map_some, Option.some.injEq] at hks
                simp only [hl1, Option.map_some, Option.some.injEq] at hl
                subst hks; subst hl
                have := hch e (by simp) e2 (by simpa using e1)
                exact ⟨this.1, this.2, ih (by simp only [wfEs] at hwf; exact hwf.2) (fun x hx => hch x (by simp [hx])) ks' hk1 l' hl1⟩
        exact ⟨largeB_false he, kind_app ha h0 h1 h13 (by rw [hkl]; exact hb) hty⟩
end
end Go.AI


namespace Go.AI
open Go.Proofs
set_option maxRecDepth 20000
theorem evalRs_take {vals : List Int} {args : List Ex} {i : Nat} {l : List Int} (h : i < args.length) (hl : evalRs vals (args.take i) = some l) : evalRs vals (args.take (i + 1)) = if (evalR vals args[i]).2 = false then none else some (l ++ [(evalR vals args[i]).1]) := by
  induction args generalizing i l with
  | nil => simp at h
  | cons e r ih =>
    cases i with
    | zero =>
      simp only [List.take_zero, evalRs, Option.some.injEq] at hl
      subst hl
      simp [evalRs]
    | succ i =>
      simp only [List.take_succ_cons, evalRs] at hl ⊢
      split at hl
      · cases hl
      · rename_i h1
        rw [if_neg h1]
        cases hk : evalRs vals (r.take i) with
        | none => simp [hk] at hl
        | some l' =>
          simp only [hk, Option.map_some, Option.some.injEq] at hl
          subst hl
          rw [ih (by simpa using h) hk]
          simp only [List.getElem_cons_succ]
          split <;> simp
theorem evalRs_none {vals : List Int} {args : List Ex} {i : Nat} (hl : evalRs vals (args.take i) = none) : evalRs vals args = none := by
  induction args generalizing i with
  | nil => simpa using hl
  | cons e r ih =>
    cases i with
    | zero => simp [evalRs] at hl
    | succ i =>
      simp only [List.take_succ_cons, evalRs] at hl ⊢
      split at hl
      · rename_i h1; rw [if_pos h1]
      · rename_i h1
        rw [if_neg h1]
        cases hk : evalRs vals (r.take i) with
        | none => rw [ih hk]; rfl
        | some l => simp [hk] at hl
theorem app87 (O : List Heap) {op : Int} {l ks : List Int} (ha : (arity op).2 = true) (h0 : op ≠ 0) (h1 : op ≠ 1) (h13 : op ≠ 13) (hlen : (ks.length : Int) = (arity op).1) (ht : Ty2 l ks) (hk : kindOp op ks ≠ 0) : ASpec Tryd.prog 154 [ii op, ints l] O (ii (applyR op l)) [] O := by
  have two : (ks.length : Int) = 2 → ∃ a b k1 k2, l = [a, b] ∧ ks = [k1, k2] := by
    intro h
    match ks, l, ht with
    | [], _, _ => simp at h
    | [_], _, _ => simp at h
    | [k1, k2], [a, b], _ => exact ⟨a, b, k1, k2, rfl, rfl⟩
    | _ :: _ :: _ :: _, _, _ => simp at h; omega
  have one : (ks.length : Int) = 1 → ∃ a k1, l = [a] ∧ ks = [k1] := by
    intro h
    match ks, l, ht with
    | [], _, _ => simp at h
    | [k1], [a], _ => exact ⟨a, k1, rfl, rfl⟩
    | _ :: _ :: _, _, _ => simp at h; omega
  have c2 : (op = 2 ∨ op = 3 ∨ op = 4 ∨ op = 6 ∨ op = 7 ∨ op = 8 ∨ op = 9 ∨ op = 11 ∨ op = 12) → ASpec Tryd.prog 154 [ii op, ints l] O (ii (applyR op l)) [] O := by
    intro h
    have h2 : (arity op).1 = 2 := by rcases h with rfl | rfl | rfl | rfl | rfl | rfl | rfl | rfl | rfl <;> rfl
    obtain ⟨a, b, k1, k2, rfl, rfl⟩ := two (by rw [hlen, h2])
    obtain ⟨a1, a2, b1, b2, -⟩ := ht
    refine apply2 O op a b h a1 b1 fun hop => ?_
    unfold kindOp at hk
    rw [if_neg (by omega), if_neg (by omega), if_neg (by omega), if_pos (by omega)] at hk
    split at hk
    · rename_i hall
      simp only [List.all_cons, List.all_nil, Bool.and_true, Bool.and_eq_true, decide_eq_true_eq] at hall
      exact ⟨a2 hall.1, b2 hall.2⟩
    · exact absurd rfl hk
  have c1 : (op = 5 ∨ op = 10) → ASpec Tryd.prog 154 [ii op, ints l] O (ii (applyR op l)) [] O := by
    intro h
    have h2 : (arity op).1 = 1 := by rcases h with rfl | rfl <;> rfl
    obtain ⟨a, k1, rfl, rfl⟩ := one (by rw [hlen, h2])
    exact apply1 O op a h ht.1
  rcases arity_cases ha with h | h | h | h | h
  · omega
  · rcases h with h | h | h | h
    · exact c2 (by omega)
    · exact c2 (by omega)
    · exact c2 (by omega)
    · exact c1 (by omega)
  · exact c2 (by omega)
  · rcases h with h | h | h
    · exact c1 (by omega)
    · exact c2 (by omega)
    · exact c2 (by omega)
  · omega
theorem ty2_of {n : Int} {vals : List Int} (hn : (vals.length : Int) = n) (hv : ∀ x ∈ vals, -65536 ≤ x ∧ x ≤ 65536) : ∀ (args : List Ex) (l ks : List Int), wfEs n args → evalRs vals args = some l → kindRs args = some ks → Ty2 l ks
  | [], l, ks, _, hl, hks => by
    simp only [evalRs, Option.some.injEq] at hl
    simp only [kindRs, Option.some.injEq] at hks
    subst hl; subst hks
    trivial
  | e :: r, l, ks, hwf, hl, hks => by
    simp only [evalRs] at hl
    simp only [kindRs] at hks
    split at hl
    · cases hl
    rename_i e1
    split at hks
    · cases hks
    rename_i e2
    cases hk1 : kindRs r with
    | none => simp [hk1] at hks
    | some ks' =>
      cases hl1 : evalRs vals r with
      | none => simp [hl1] at hl
      | some l' =>
        simp only [hk1, Option.map_some, Option.some.injEq] at hks
        simp only [hl1, Option.map_some, Option.some.injEq] at hl
        subst hks; subst hl
        simp only [wfEs] at hwf
        have := eval_ty hn hv _ e (Nat.lt_succ_self _) hwf.1 e2 (by simpa using e1)
        exact ⟨this.1, this.2, ty2_of hn hv r l' ks' hwf.2 hl1 hk1⟩
theorem evaluate71 {n : Int} {vals : List Int} (hn : (vals.length : Int) = n) (hv : ∀ x ∈ vals, -65536 ≤ x ∧ x ≤ 65536) : ∀ (N : Nat) (x : Ex), SizeOf.sizeOf x < N → wfE n x → kindR x ≠ 0 → ∀ O,
    ASpec Tryd.prog 98 [exD x, ints vals] O (.tup [ii (evalR vals x).1, bb (evalR vals x).2]) [] O := by
  intro N
  induction N with
  | zero => intro x h; omega
  | succ N ihN =>
    intro x hs hwf hk O
    have hty := eval_ty hn hv _ x (Nat.lt_succ_self _) hwf hk
    obtain ⟨op, v, ix, args⟩ := x
    simp only [wfE] at hwf
    obtain ⟨hform, hwf⟩ := hwf
    obtain ⟨ha, hb, -, hd⟩ := formHead_zero hform
    have hch : ∀ e ∈ args, kindR e ≠ 0 → ∀ O, ASpec Tryd.prog 98 [exD e, ints vals] O (.tup [ii (evalR vals e).1, bb (evalR vals e).2]) [] O := by
      intro e hm hke O
      have := List.sizeOf_lt_of_mem hm
      simp only [Ex.mk.sizeOf_spec] at hs
      exact ihN e (by omega) (wfEs_mem hwf e hm) hke O
    have hlen3 : args.length ≤ 3 := by have := arity_le op; omega
    have hlen : args.length ≤ max63 := by simp only [max63]; omega
    clear ihN hs hform
    simp only [kindR] at hk
    cases hks : kindRs args with
    | none => rw [hks] at hk; exact absurd rfl hk
    | some ks =>
      rw [hks] at hk
      simp only at hk
      have hkl := kindRs_len hks
      have hnz := kindRs_nz hks
      simp only [evalR] at *
      refine aspec_stop [20] Tk Tryd.func98 rfl Tryd.call98 Tryd.ntmps98 (Nat.le_of_ble_eq_true rfl) fun E => ?_
      refine g_run Tk Tryd.func98 ?_
      first | refine g_cnd Tk Tryd.func98 rfl (fun h0 => ?_) (fun h0 => ?_) | refine g_know Tk Tryd.func98 rfl (fun h0 => ?_) (fun h0 => ?_) | refine s_know Tk (fun h0 => ?_) (fun h0 => ?_)
      · have h0 := beqT h0
        subst h0
        rw [if_pos rfl]
        refine g_ret Tk (r := .tup [ii v, bb true]) rfl rfl rfl trivial rfl rfl ?_
        rfl
      have h0 := beqF h0
      rw [if_neg h0] at *
      first | refine g_cnd Tk Tryd.func98 rfl (fun h1 => ?_) (fun h1 => ?_) | refine g_know Tk Tryd.func98 rfl (fun h1 => ?_) (fun h1 => ?_) | refine s_know Tk (fun h1 => ?_) (fun h1 => ?_)
      · have h1 := beqT h1
        subst h1
        rw [if_pos rfl]
        have hix : ix.toNat < vals.length := by omega
        first | refine g_need Tk Tryd.func98 (by omega) ?_ | refine s_need Tk (by omega) ?_
        first | refine g_elem Tk Tryd.func98 (get_mapI (f := fun x => [vi x]) (i := ix.toNat) (by omega) hix) ?_ | refine s_elem Tk (get_mapI (f := fun x => [vi x]) (i := ix.toNat) (by omega) hix) ?_
        refine g_ret Tk (r := .tup [ii _, bb true]) rfl rfl rfl trivial rfl rfl ?_
        rw [List.getD_eq_getElem?_getD, List.getElem?_eq_getElem hix]
        rfl
      have h1 := beqF h1
      rw [if_neg h1] at *
      first | refine g_cnd Tk Tryd.func98 rfl (fun h13 => ?_) (fun h13 => ?_) | refine g_know Tk Tryd.func98 rfl (fun h13 => ?_) (fun h13 => ?_) | refine s_know Tk (fun h13 => ?_) (fun h13 => ?_)
      · have h13 := beqT h13
        subst h13
        rw [if_pos rfl] at *
        have h3 : args.length = 3 := by have : (args.length : Int) = 3 := hb; omega
        obtain ⟨hk0, hk12, hkr⟩ := kindOp_ite hk
        match args, h3 with
        | [c, a, b], _ =>
          have hkk : ks = [kindR c, kindR a, kindR b] := by
            simp only [kindRs, if_neg (hnz c (by simp)), if_neg (hnz a (by simp)), if_neg (hnz b (by simp)), Option.map_some, Option.some.injEq] at hks
            exact hks.symm
          subst hkk
          simp only [List.getD_cons_zero, List.getD_cons_succ] at hk0 hk12 hkr
          simp only [evalI]
          have hc1 := eval_ty hn hv _ c (Nat.lt_succ_self _) (by simp only [wfEs] at hwf; exact hwf.1) (hnz c (by simp))
          have sc := hch c (by simp) (hnz c (by simp))
          have sa := hch a (by simp) (hnz a (by simp))
          have sb := hch b (by simp) (hnz b (by simp))
          clear hch hty hwf hnz
          obtain ⟨co, cv, ci, ca⟩ := c
          obtain ⟨ao, av, ai, aa⟩ := a
          obtain ⟨bo, bv, bi, ba⟩ := b
          generalize evalR vals (.mk co cv ci ca) = rc at *
          obtain ⟨r1, r2⟩ := rc
          first | refine g_need Tk Tryd.func98 (by simp) ?_ | refine s_need Tk (by simp) ?_
          first | refine g_elem Tk Tryd.func98 (rfl) ?_ | refine s_elem Tk (rfl) ?_
          first | refine g_call Tk Tryd.func98 (sc _) rfl rfl rfl rfl rfl ?_ | refine s_call Tk (sc _) rfl rfl rfl ?_
          first | refine g_cnd Tk Tryd.func98 rfl (fun h2 => ?_) (fun h2 => ?_) | refine g_know Tk Tryd.func98 rfl (fun h2 => ?_) (fun h2 => ?_) | refine s_know Tk (fun h2 => ?_) (fun h2 => ?_)
          · have h2 : r2 = false := notT h2
            subst h2
            rw [if_pos rfl]
            refine g_ret Tk (r := .tup [ii 0, bb false]) rfl rfl rfl trivial rfl rfl ?_
            rfl
          · have h2 : r2 = true := notF h2
            subst h2
            rw [if_neg (by simp)]
            rcases (hc1 rfl).2 hk0 with h4 | h4
            · simp only at h4
              subst h4
              rw [if_neg (by simp)]
              first | refine g_need Tk Tryd.func98 (by exact ⟨by decide, by simp [w64]⟩) ?_ | refine s_need Tk (by exact ⟨by decide, by simp [w64]⟩) ?_
              first | refine g_elem Tk Tryd.func98 (rfl) ?_ | refine s_elem Tk (rfl) ?_
              first | refine g_call Tk Tryd.func98 (sb _) rfl rfl rfl rfl rfl ?_ | refine s_call Tk (sb _) rfl rfl rfl ?_
              refine g_ret Tk (r := .tup [ii _, bb _]) rfl rfl rfl trivial rfl rfl ?_
              rfl
            · simp only at h4
              subst h4
              rw [if_pos rfl]
              first | refine g_need Tk Tryd.func98 (by exact ⟨by decide, by simp [w64]⟩) ?_ | refine s_need Tk (by exact ⟨by decide, by simp [w64]⟩) ?_
              first | refine g_elem Tk Tryd.func98 (rfl) ?_ | refine s_elem Tk (rfl) ?_
              first | refine g_call Tk Tryd.func98 (sa _) rfl rfl rfl rfl rfl ?_ | refine s_call Tk (sa _) rfl rfl rfl ?_
              refine g_ret Tk (r := .tup [ii _, bb _]) rfl rfl rfl trivial rfl rfl ?_
              rfl
      have h13 := beqF h13
      rw [if_neg h13] at *
      apply join_q (P := fun l => evalRs vals args = some l) (s6 := fun l => { σ := [(2, .own 0 2 0 0), (8, ints l)], S := [(2, .box [ii op, ii v, ii ix, exs args])] :: O, n := 78 })
      · intro J
        refine g_loop ?_
        refine rch_wk (wk_nil 8 68 3 1 rfl rfl rfl) ?_
        refine rch_loop2 (fun x : Nat × List Int => [(1, ints vals), (2, .own 0 2 0 0), (8, .osl 0 68), (51, exs args), (52, ii args.length), (53, ii x.1)]) (fun x => [(68, oints x.2), (2, .box [ii op, ii v, ii ix, exs args])]) (fun _ => O) 78
          (fun x => x.1 ≤ args.length ∧ evalRs vals (args.take x.1) = some x.2) (fun x => args.length - x.1) (0, []) ⟨Nat.zero_le _, rfl⟩ ⟨rfl, rfl, rfl, rfl, rfl, rfl, trivial⟩ rfl ⟨rfl, rfl, trivial⟩ rfl rfl ?_
        rintro ⟨i, l⟩ ⟨hi, hno⟩ ih
        simp only at hi hno
        refine g_run Tk Tryd.func98 ?_
        first | refine g_cnd Tk Tryd.func98 rfl (fun h5 => ?_) (fun h5 => ?_) | refine g_know Tk Tryd.func98 rfl (fun h5 => ?_) (fun h5 => ?_) | refine s_know Tk (fun h5 => ?_) (fun h5 => ?_)
        · have h5 : i < args.length := by simpa using h5
          have hm := List.getElem_mem h5
          have hg := exIs_get h5
          have ht := evalRs_take h5 hno
          have hll := evalRs_len hno
          simp only [List.length_take, Nat.min_eq_left hi] at hll
          generalize args[i] = e at hm hg ht
          have hce := fun O => hch e hm (hnz e hm) O
          obtain ⟨eo, ev, ei, ea⟩ := e
          simp only [exI] at hg
          first | refine g_need Tk Tryd.func98 (by omega) ?_ | refine s_need Tk (by omega) ?_
          first | refine g_elem Tk Tryd.func98 (hg) ?_ | refine s_elem Tk (hg) ?_
          first | refine g_call Tk Tryd.func98 (hce _) rfl rfl rfl rfl rfl ?_ | refine s_call Tk (hce _) rfl rfl rfl ?_
          generalize evalR vals (.mk eo ev ei ea) = k at ht
          first | refine g_cnd Tk Tryd.func98 rfl (fun h6 => ?_) (fun h6 => ?_) | refine g_know Tk Tryd.func98 rfl (fun h6 => ?_) (fun h6 => ?_) | refine s_know Tk (fun h6 => ?_) (fun h6 => ?_)
          · have h6 := notT h6
            rw [if_pos h6] at ht
            rw [evalRs_none ht]
            refine g_ret Tk (r := .tup [ii 0, bb false]) rfl rfl rfl trivial rfl rfl ?_
            rfl
          · have h6 := notF h6
            rw [if_neg (by rw [h6]; simp)] at ht
            first | refine g_need Tk Tryd.func98 (by exact ⟨by show (l.length + 1) * 8 ≤ 140737488355328; omega, by show l.length + 1 ≤ 9223372036854775807; omega⟩) ?_ | refine s_need Tk (by exact ⟨by show (l.length + 1) * 8 ≤ 140737488355328; omega, by show l.length + 1 ≤ 9223372036854775807; omega⟩) ?_
            refine g_loop ?_
            refine ih (i + 1, l ++ [k.1]) _ _ ⟨h5, ht⟩ (by simp only; omega) ⟨rfl, rfl, rfl, rfl, rfl, congrArg ii (wsucc h5 hlen), trivial⟩ rfl ⟨congrArg some (oints_app l k.1), rfl, trivial⟩ rfl rfl
        · have h5 : args.length ≤ i := by simpa using h5
          rw [List.take_of_length_le h5] at hno
          refine g_stop ?_
          refine rch_wk (wk_freeze 68 rfl rfl) ?_
          refine rch_cut2 (l := [(2, .own 0 2 0 0), (8, ints l)]) (Hv := [(2, .box [ii op, ii v, ii ix, exs args])]) ⟨rfl, rfl, trivial⟩ rfl ⟨rfl, trivial⟩ rfl rfl (J l hno)
      · intro l hl
        have ht := ty2_of hn hv args l ks hwf hl hks
        rw [hl]
        refine g_run Tk Tryd.func98 ?_
        refine g_go Tk Tryd.func98 ?_
        first | refine g_call Tk Tryd.func98 (app87 _ ha h0 h1 h13 (by rw [hkl]; exact hb) ht hk) rfl rfl rfl rfl rfl ?_ | refine s_call Tk (app87 _ ha h0 h1 h13 (by rw [hkl]; exact hb) ht hk) rfl rfl rfl ?_
        first | refine g_call Tk Tryd.func98 (large70k _ (applyR op l) 1073741824 (by decide) (by decide)) rfl rfl rfl rfl rfl ?_ | refine s_call Tk (large70k _ (applyR op l) 1073741824 (by decide) (by decide)) rfl rfl rfl ?_
        refine g_ret Tk (r := .tup [ii _, bb _]) rfl rfl rfl trivial rfl rfl ?_
        rfl
/-- Evaluate: the value, or the error. -/
def evalX (x : Ex) (vals : List Int) : Int × Int :=
  if (checkX x vals.length).2 ≠ 0 then (0, (checkX x vals.length).2) else
  if vals.any (fun n => largeB n 65536) then (0, 2) else
  if (evalR vals x).2 = false then (0, 17) else ((evalR vals x).1, 0)
theorem big69' (O : List Heap) (a : Int) : ASpec Tryd.prog 96 [ii a] O (bb (largeB a 65536)) [] O := by
  refine aspec_intro Tk Tryd.func96 rfl Tryd.call96 Tryd.ntmps96 (Nat.le_of_ble_eq_true rfl) fun E => ?_
  refine g_run Tk Tryd.func96 ?_
  first | refine g_call Tk Tryd.func96 (large70k _ a 65536 (by decide) (by decide)) rfl rfl rfl rfl rfl ?_ | refine s_call Tk (large70k _ a 65536 (by decide) (by decide)) rfl rfl rfl ?_
  refine g_ret Tk (r := bb _) rfl rfl rfl trivial rfl rfl ?_
  rfl
theorem indexFunc86p (O : List Heap) (l : List Int) (f : Nat) (p : Int → Bool) (hl : l.length ≤ max63) (hp : ∀ x ∈ l, ∀ O, ASpec Tryd.prog f [ii x] O (bb (p x)) [] O) :
    ASpec Tryd.prog 153 [ints l, .fn (.func f) [] []] O (ii (findIx p l 0)) [] O := by
  refine aspec_intro Tk Tryd.func153 rfl Tryd.call153 Tryd.ntmps153 (Nat.le_of_ble_eq_true rfl) fun E => ?_
  refine g_run Tk Tryd.func153 ?_
  refine g_loop ?_
  refine rch_loop_ind (fun i : Nat => [(0, ints l), (1, .fn (.func f) [] []), (6, ints l), (7, ii l.length), (8, ii i)]) (fun _ => [] :: O) 19 (fun i => i ≤ l.length ∧ findIx p l 0 = findIx p (l.drop i) i) (fun i => l.length - i) 0 ⟨Nat.zero_le _, rfl⟩ ⟨rfl, rfl, rfl, rfl, rfl, trivial⟩ rfl rfl ?_
  intro i ⟨hi, hno⟩ ih
  rw [hno]
  rw [hno] at ih
  refine g_run Tk Tryd.func153 ?_
  first | refine g_cnd Tk Tryd.func153 rfl (fun h1 => ?_) (fun h1 => ?_) | refine g_know Tk Tryd.func153 rfl (fun h1 => ?_) (fun h1 => ?_) | refine s_know Tk (fun h1 => ?_) (fun h1 => ?_)
  · have h1 : i < l.length := by simpa using h1
    have hd : l.drop i = l[i] :: l.drop (i + 1) := (List.drop_eq_getElem_cons h1)
    first | refine g_need Tk Tryd.func153 (by omega) ?_ | refine s_need Tk (by omega) ?_
    first | refine g_elem Tk Tryd.func153 (get_mapZ h1) ?_ | refine s_elem Tk (get_mapZ h1) ?_
    first | refine g_call Tk Tryd.func153 (hp l[i] (List.getElem_mem h1) _) rfl rfl rfl rfl rfl ?_ | refine s_call Tk (hp l[i] (List.getElem_mem h1) _) rfl rfl rfl ?_
    first | refine g_cnd Tk Tryd.func153 rfl (fun h2 => ?_) (fun h2 => ?_) | refine g_know Tk Tryd.func153 rfl (fun h2 => ?_) (fun h2 => ?_) | refine s_know Tk (fun h2 => ?_) (fun h2 => ?_)
    · refine g_ret Tk (r := ii _) rfl rfl rfl trivial rfl rfl ?_
      rw [hd]
      simp only [findIx]
      rw [if_pos h2]
    · refine g_loop ?_
      refine ih (i + 1) _ ⟨h1, ?_⟩ (by omega) ⟨rfl, rfl, rfl, rfl, congrArg ii (wsucc h1 hl), trivial⟩ rfl rfl
      rw [hd]
      simp only [findIx]
      rw [if_neg (by rw [h2]; simp)]
  · have h1 : l.length ≤ i := by simpa using h1
    refine g_ret Tk (r := ii _) rfl rfl rfl trivial rfl rfl ?_
    rw [List.drop_eq_nil_of_le h1]
    rfl
theorem containsFunc68p (O : List Heap) (l : List Int) (f : Nat) (p : Int → Bool) (hl : l.length ≤ max63) (hp : ∀ x ∈ l, ∀ O, ASpec Tryd.prog f [ii x] O (bb (p x)) [] O) :
    ASpec Tryd.prog 95 [ints l, .fn (.func f) [] []] O (bb (l.any p)) [] O := by
  refine aspec_intro Tk Tryd.func95 rfl Tryd.call95 Tryd.ntmps95 (Nat.le_of_ble_eq_true rfl) fun E => ?_
  refine g_run Tk Tryd.func95 ?_
  first | refine g_call Tk Tryd.func95 (indexFunc86p _ l f p hl hp) rfl rfl rfl rfl rfl ?_ | refine s_call Tk (indexFunc86p _ l f p hl hp) rfl rfl rfl ?_
  refine g_ret Tk (r := bb _) rfl rfl rfl trivial rfl rfl ?_
  exact congrArg bb (findIx_any p l 0)
theorem checkX_ok {x : Ex} {n : Int} (h : (checkX x n).2 = 0) : (formR x n 1 0).1 = 0 ∧ kindR x ≠ 0 ∧ 0 ≤ n ∧ n ≤ 16 ∧ (checkX x n).1 = kindR x := by
  unfold checkX at h ⊢
  by_cases h1 : n < 0 ∨ n > 16
  · rw [if_pos h1] at h; cases h
  rw [if_neg h1] at h ⊢
  by_cases h2 : (formR x n 1 0).1 ≠ 0
  · rw [if_pos h2] at h; exact absurd h h2
  rw [if_neg h2] at h ⊢
  by_cases h3 : kindR x = 0
  · rw [if_pos h3] at h; cases h
  rw [if_neg h3]
  exact ⟨by simpa using h2, h3, by omega, by omega, rfl⟩
theorem any_large {vals : List Int} (h : vals.any (fun n => largeB n 65536) = false) : ∀ x ∈ vals, -65536 ≤ x ∧ x ≤ 65536 := by
  intro x hx
  rw [List.any_eq_false] at h
  have := h x hx
  simp [largeB] at this
  omega
theorem evaluate51 (O : List Heap) (x : Ex) (vals : List Int) (hok : exOk x) (hl : vals.length ≤ max63) : ASpec Tryd.prog 43 [exD x, ints vals] O (.tup [ii (evalX x vals).1, ii (evalX x vals).2]) [] O := by
  have hc := fun O => check67 O x vals.length hok
  have hco := @checkX_ok x vals.length
  have hwf := formR_wf x vals.length 1 0
  have hev := fun hv hw hk O => evaluate71 (n := vals.length) (vals := vals) rfl hv _ x (Nat.lt_succ_self _) hw hk O
  unfold evalX
  obtain ⟨op, v, ix, args⟩ := x
  generalize checkX (.mk op v ix args) vals.length = R at *
  refine aspec_intro Tk Tryd.func43 rfl Tryd.call43 Tryd.ntmps43 (Nat.le_of_ble_eq_true rfl) fun E => ?_
  refine g_run Tk Tryd.func43 ?_
  first | refine g_call Tk Tryd.func43 (hc _) rfl rfl rfl rfl rfl ?_ | refine s_call Tk (hc _) rfl rfl rfl ?_
  first | refine g_cnd Tk Tryd.func43 rfl (fun h1 => ?_) (fun h1 => ?_) | refine g_know Tk Tryd.func43 rfl (fun h1 => ?_) (fun h1 => ?_) | refine s_know Tk (fun h1 => ?_) (fun h1 => ?_)
  · have h1 := bneT h1
    rw [if_pos h1]
    refine g_ret Tk (r := .tup [ii 0, ii _]) rfl rfl rfl trivial rfl rfl ?_
    rfl
  · have h1 := bneF h1
    obtain ⟨c1, c2, -, -, -⟩ := hco h1
    rw [if_neg (by simpa using h1)]
    first | refine g_call Tk Tryd.func43 (containsFunc68p _ vals 96 (fun n => largeB n 65536) hl (fun x _ O => big69' O x)) rfl rfl rfl rfl rfl ?_ | refine s_call Tk (containsFunc68p _ vals 96 (fun n => largeB n 65536) hl (fun x _ O => big69' O x)) rfl rfl rfl ?_
    first | refine g_cnd Tk Tryd.func43 rfl (fun h2 => ?_) (fun h2 => ?_) | refine g_know Tk Tryd.func43 rfl (fun h2 => ?_) (fun h2 => ?_) | refine s_know Tk (fun h2 => ?_) (fun h2 => ?_)
    · rw [if_pos h2]
      refine g_ret Tk (r := .tup [ii 0, ii 2]) rfl rfl rfl trivial rfl rfl ?_
      rfl
    · rw [if_neg (by rw [h2]; simp)]
      first | refine g_call Tk Tryd.func43 (hev (any_large h2) (hwf c1) c2 _) rfl rfl rfl rfl rfl ?_ | refine s_call Tk (hev (any_large h2) (hwf c1) c2 _) rfl rfl rfl ?_
      first | refine g_cnd Tk Tryd.func43 rfl (fun h3 => ?_) (fun h3 => ?_) | refine g_know Tk Tryd.func43 rfl (fun h3 => ?_) (fun h3 => ?_) | refine s_know Tk (fun h3 => ?_) (fun h3 => ?_)
      · have h3 := notT h3
        rw [if_pos h3]
        refine g_ret Tk (r := .tup [ii 0, ii 17]) rfl rfl rfl trivial rfl rfl ?_
        rfl
      · have h3 := notF h3
        rw [if_neg (by rw [h3]; simp)]
        refine g_ret Tk (r := .tup [ii _, ii 0]) rfl rfl rfl trivial rfl rfl ?_
        rfl
end Go.AI


namespace Go.AI
open Go.Proofs
set_option maxRecDepth 20000
def Ex.op : Ex → Int | .mk o _ _ _ => o
def Ex.vl : Ex → Int | .mk _ v _ _ => v
def Ex.ix : Ex → Int | .mk _ _ i _ => i
def Ex.args : Ex → List Ex | .mk _ _ _ a => a
abbrev exA (x : Ex) : D := .agg [ii x.op, ii x.vl, ii x.ix, exs x.args]
theorem exD_eq (x : Ex) : exD x = exA x := by cases x; rfl
theorem exI_eq (x : Ex) : exI x = [vi x.op, vi x.vl, vi x.ix, .sl 4 x.args.length (exIs x.args)] := by cases x; simp [exI, Ex.op, Ex.vl, Ex.ix, Ex.args]
/-- An assignment. -/
structure Upd where
  v : Int
  x : Ex
/-- A move. -/
structure Mv where
  frm : Int
  ev : Int
  to : Int
  g : Ex
  us : List Upd
/-- An extended automaton. -/
structure Ext where
  alpha : List Int
  locs : Int
  init : Int
  marked : List Int
  vars : List Vr
  moves : List Mv
structure Sta where
  loc : Int
  vals : List Int
def mvOk (x : Mv) : Prop := exOk x.g ∧ x.us.length ≤ max63 ∧ ∀ u ∈ x.us, exOk u.x
structure extOk (m : Ext) : Prop where
  al : m.alpha.length ≤ max63
  ma : m.marked.length ≤ max63
  va : m.vars.length ≤ max63
  na : ∀ v ∈ m.vars, v.name.size ≤ max63
  mo : m.moves.length ≤ max63
  mv : ∀ x ∈ m.moves, mvOk x
theorem check67A (O : List Heap) (x : Ex) (n : Int) (hok : exOk x) : ASpec Tryd.prog 26 [exA x, ii n] O (.tup [ii (checkX x n).1, ii (checkX x n).2]) [] O := by rw [← exD_eq]; exact check67 O x n hok
theorem evaluate51A (O : List Heap) (x : Ex) (vals : List Int) (hok : exOk x) (hl : vals.length ≤ max63) : ASpec Tryd.prog 43 [exA x, ints vals] O (.tup [ii (evalX x vals).1, ii (evalX x vals).2]) [] O := by rw [← exD_eq]; exact evaluate51 O x vals hok hl
/-- The first error of a list of assignments behind one. -/
def updErr (n : Int) : Option Int → List Upd → Int
  | _, [] => 0
  | prev, u :: r => if u.v < 0 ∨ u.v ≥ n then 2 else if prev.any (u.v ≤ ·) then 5 else if typedX u.x n 1 ≠ 0 then typedX u.x n 1 else updErr n (some u.v) r
/-- The first error of a move behind one. -/
def mvErr (m : Ext) (prev : Option Mv) (x : Mv) : Int :=
  if x.frm < 0 ∨ x.frm ≥ m.locs ∨ x.to < 0 ∨ x.to ≥ m.locs then 2 else
  if x.ev ∉ m.alpha then 9 else
  if prev.any (fun p => decide (x.frm < p.frm ∨ (x.frm = p.frm ∧ x.ev < p.ev))) then 5 else
  if typedX x.g m.vars.length 2 ≠ 0 then typedX x.g m.vars.length 2 else updErr m.vars.length none x.us
end Go.AI


namespace Go.AI
open Go.Proofs
set_option maxRecDepth 20000
def varsErr (l : List Vr) : Int := if l.length > 16 then 3 else checkVrs l l 0
theorem checkVars56' (O : List Heap) (l : List Vr) (hl : l.length ≤ max63) (hn : ∀ v ∈ l, v.name.size ≤ max63) : ASpec Tryd.prog 83 [vrs l] O (ii (varsErr l)) [] O := checkVars56 O l hl hn
def mvsErr (m : Ext) : Option Mv → List Mv → Int
  | _, [] => 0
  | prev, x :: r => if mvErr m prev x ≠ 0 then mvErr m prev x else mvsErr m (some x) r
/-- Check: the first error. -/
def chk (m : Ext) : Int :=
  if checkSet 32 m.alpha none ≠ 0 then checkSet 32 m.alpha none else
  if m.locs < 1 ∨ m.locs > 64 ∨ m.init < 0 ∨ m.init ≥ m.locs then 2 else
  if checkSet m.locs m.marked none ≠ 0 then checkSet m.locs m.marked none else
  if varsErr m.vars ≠ 0 then varsErr m.vars else
  if m.moves.length > 256 then 3 else mvsErr m none m.moves
end Go.AI


namespace Go.AI
open Go.Proofs
set_option maxRecDepth 20000
set_option maxHeartbeats 400000
end Go.AI


namespace Go.AI
open Go.Proofs
set_option maxRecDepth 20000
/-- What a right move is. -/
structure mvRight (m : Ext) (x : Mv) : Prop where
  frm : 0 ≤ x.frm ∧ x.frm < m.locs
  to : 0 ≤ x.to ∧ x.to < m.locs
  ev : x.ev ∈ m.alpha
  g : typedX x.g m.vars.length 2 = 0
  us : updErr m.vars.length none x.us = 0
/-- What a right automaton is. -/
structure extRight (m : Ext) : Prop where
  alpha : checkSet 32 m.alpha none = 0
  locs : 1 ≤ m.locs ∧ m.locs ≤ 64
  init : 0 ≤ m.init ∧ m.init < m.locs
  marked : checkSet m.locs m.marked none = 0
  vars : varsErr m.vars = 0
  len : m.moves.length ≤ 256
  mv : ∀ x ∈ m.moves, mvRight m x
theorem vars_len {l : List Vr} (h : varsErr l = 0) : l.length ≤ 16 := by
  unfold varsErr at h
  by_cases h1 : l.length > 16
  · rw [if_pos h1] at h; cases h
  · omega
end Go.AI


namespace Go.AI
open Go.Proofs
set_option maxRecDepth 20000
/-- The text of a number. -/
def itoaB (n : Int) : ByteArray := ⟨(Lib.itoa n).toArray⟩
/-- The table that the library keeps. -/
def ptab (ty : TypeId) (fr : Nat × Nat) : Obj := .cells (Lib.pow10Tab.map fun z => Value.int .u64 z).toArray ty fr
theorem tabIs_of {name : String} {g : Nat} {ty : TypeId} {fr : Nat × Nat} {w : World} (hg : Tryd.prog.globalNamed name = some g) (h : w.heap[g]? = some (ptab ty fr)) : Lib.TabIs Tryd.prog w name .u64 Lib.pow10Tab := by
  simp only [Lib.TabIs, World.var?, hg, Option.bind_some, h, ptab]
/-- Which block it is. -/
def IsTab (g : Nat) : Prop := ∀ ty fr w, w.heap[g]? = some (ptab ty fr) → Lib.TabIs Tryd.prog w "internal/strconv.uint64pow10" .u64 Lib.pow10Tab
theorem itoa79 {g : Nat} (hg : IsTab g) {ty : TypeId} {fr : Nat × Nat} (O : List Heap) (n : Int) (h0 : -9223372036854775808 ≤ n) (h1 : n ≤ 9223372036854775807) : ASpecT g (ptab ty fr) Tryd.prog 149 [ii n] O (.i (.v (.string (itoaB n)))) [] O := by
  intro E K ρ w vs hw htab hrep
  obtain rfl : vs = [.int .i64 n] := by
    cases hrep with
    | cons r rs => cases rs; rw [inv_v r]
  refine .inl ⟨Tryd.call149 _ _, ?_⟩
  refine (Tryd.strconv_Itoa n h0 h1 w (hg ty fr w htab.1)).mono ?_
  rintro e w' ⟨rfl, k, os, rfl⟩
  obtain ⟨ρ1, hρ1, hI⟩ := hinv_enter hw
  obtain ⟨hI2, hst⟩ := HInv.grow (S := [] :: O) rfl hI (fun _ _ _ e => e) (fun _ h => by simp [look] at h) (grow_more hI k os)
  exact ⟨_, rfl, K, ρ1, hI2, .i (.v rfl)⟩
end Go.AI


namespace Go.AI
open Go.Proofs
set_option maxRecDepth 20000
theorem decDigits_len : ∀ (k u : Nat), u < 10 ^ (k + 1) → (Lib.decDigits u).length ≤ k + 1
  | 0, u, h => by
    unfold Lib.decDigits
    rw [dif_pos (by omega)]
    simp
  | k + 1, u, h => by
    unfold Lib.decDigits
    split
    · simp
    · rw [List.length_append]
      have := decDigits_len k (u / 10) (by rw [Nat.pow_succ] at h; omega)
      simp only [List.length_cons, List.length_nil]
      omega
theorem itoaB_size {n : Int} (h0 : -9223372036854775808 ≤ n) (h1 : n ≤ 9223372036854775807) : (itoaB n).size ≤ 21 := by
  show (Lib.itoa n).toArray.size ≤ 21
  simp only [List.size_toArray]
  unfold Lib.itoa
  split
  · have := decDigits_len 19 n.natAbs (by omega)
    simp only [List.length_cons]
    omega
  · have := decDigits_len 19 n.toNat (by omega)
    omega
abbrev i64B (n : Int) : Prop := -9223372036854775808 ≤ n ∧ n ≤ 9223372036854775807
end Go.AI


/- Another name for one object among others. -/
namespace Go.AI
def renH (a b : Nat) : Heap → Heap
  | [] => []
  | (k, o) :: r => (renN a b k, o) :: renH a b r
theorem renN_self (a b : Nat) : renN a b a = b := by simp [renN]
theorem renN_ne {a b n : Nat} (h : n ≠ a) : renN a b n = n := by
  unfold renN
  cases hb : Nat.beq n a with
  | false => rfl
  | true => exact absurd (Nat.eq_of_beq_eq_true hb) h
theorem look_renH {a b n : Nat} {o : Ob} : ∀ {H : Heap}, look H b = none → look (renH a b H) n = some o → ∃ n0, n = renN a b n0 ∧ look H n0 = some o
  | [], _, h => by simp [renH, look] at h
  | (k, x) :: r, hb, h => by
    rw [look_cons] at hb
    split at hb
    · cases hb
    · rename_i hkb
      simp only [renH] at h
      rw [look_cons] at h
      split at h
      · rename_i e
        simp only [Option.some.injEq] at h
        subst h
        exact ⟨k, e.symm, by rw [look_cons, if_pos rfl]⟩
      · rename_i e
        obtain ⟨n0, h1, h2⟩ := look_renH hb h
        refine ⟨n0, h1, ?_⟩
        rw [look_cons, if_neg]
        · exact h2
        · intro e2
          subst e2
          exact e h1.symm
theorem look_renH' {a b n0 : Nat} {o : Ob} : ∀ {H : Heap}, look H b = none → look H n0 = some o → look (renH a b H) (renN a b n0) = some o
  | [], _, h => by simp [look] at h
  | (k, x) :: r, hb, h => by
    rw [look_cons] at hb
    split at hb
    · cases hb
    · rename_i hkb
      rw [look_cons] at h
      simp only [renH]
      rw [look_cons]
      split at h
      · rename_i e
        subst e
        rw [if_pos rfl]; exact h
      · rename_i e
        rw [if_neg]
        · exact look_renH' hb h
        · intro e2
          by_cases h1 : k = a
          · subst h1
            rw [renN_self, renN_ne (Ne.symm e)] at e2
            subst e2
            rw [hb] at h; cases h
          · rw [renN_ne h1] at e2
            by_cases h2 : n0 = a
            · subst h2; rw [renN_self] at e2; exact hkb e2
            · rw [renN_ne h2] at e2; exact e e2
section
variable {c : Cx} {s : St} {H : Heap} {O : List Heap}
theorem wk_ren (a b : Nat) (hS : s.S = H :: O) (hb : look H b = none) (hfl : allH (fun _ o => o.flat) H = true) : Wk c s { σ := renσ a b s.σ, S := renH a b H :: O, n := s.n } := by
  intro K ρ act w hi
  have hh := hi.h
  rw [hS] at hh
  let ρ' : Nat → Nat → Loc := upd ρ b (ρ 0 a)
  have hρ : ∀ n0 o, look H n0 = some o → ρ' 0 (renN a b n0) = ρ 0 n0 := by
    intro n0 o h
    by_cases h1 : n0 = a
    · subst h1; rw [renN_self]; exact upd_same _ _ _
    · rw [renN_ne h1]
      exact upd_other _ _ _ (.inr fun e => by subst e; rw [hb] at h; cases h)
  have r1 : ∀ d n, ρ' (d + 1) n = ρ (d + 1) n := fun d n => upd_other _ _ _ (.inl (by omega))
  have hren : Ren a b ρ ρ' (shape (H :: O)) (shape (renH a b H :: O)) := by
    refine ⟨fun n x e => ?_, fun d n x e => ⟨by simpa [shape, objAt] using e, r1 d n⟩⟩
    simp only [shape, objAt, List.getElem?_cons_zero] at e ⊢
    cases hl : look H n with
    | none => simp [hl] at e
    | some o =>
      rw [look_renH' hb hl]
      exact ⟨by simpa [hl] using e, hρ _ _ hl⟩
  have hmv : Moves (fun _ => false) K K ρ ρ' (shape (H :: O)) (shape (renH a b H :: O)) := ⟨K.le_refl, fun _ _ h => (by cases h), hren.s⟩
  have hcase : ∀ d n o, objAt (renH a b H :: O) d n = some o → ∃ n0, objAt (H :: O) d n0 = some o ∧ ρ' d n = ρ d n0 ∧ (d = 0 → n = renN a b n0) ∧ (d ≠ 0 → n = n0) := by
    intro d n o e
    cases d with
    | zero =>
      obtain ⟨n0, rfl, h2⟩ := look_renH hb (by simpa [objAt] using e)
      exact ⟨n0, by simpa [objAt] using h2, hρ _ _ h2, fun _ => rfl, fun h => absurd rfl h⟩
    | succ d => exact ⟨n, by simpa [objAt] using e, r1 _ _, fun h => absurd h (Nat.succ_ne_zero d), fun _ => rfl⟩
  have e0 : ∀ f : Nat → Nat → Loc, (fun d n => f (0 + d) n) = f := by intro f; funext d n; rw [Nat.zero_add]
  refine ⟨K, ρ', ⟨hh.holds, ?_, ?_, hh.size, ?_, ?_, ?_, hh.Kle, hh.Knew, hh.rest⟩, hi.defers, hi.size, fun t d e => ?_⟩
  · intro d n o e
    obtain ⟨n0, h1, h2, h3, h4⟩ := hcase d n o e
    have h0 := hh.own _ _ _ h1
    rw [h2]
    cases d with
    | zero =>
      rw [e0] at h0 ⊢
      have hf : o.flat = true := allH_look hfl (by simpa [objAt] using h1)
      refine h0.move hmv ?_ (fun _ => rfl) (fun _ _ => rfl)
      cases o with
      | box cs => exact hf
      | tb _ cs => exact hf
      | arr => rfl
      | mp => rfl
    | succ d =>
      have e1 : (fun d' n => ρ' (d + 1 + d') n) = fun d' n => ρ (d + 1 + d') n := by
        funext d' n
        rw [show d + 1 + d' = (d + d') + 1 by omega, r1]
      rw [e1]
      simpa using h0
  · intro d n o d2 n2 o2 e e2 b1 b2 hbe
    obtain ⟨m1, a1, a2, a3, a4⟩ := hcase d n o e
    obtain ⟨m2, c1, c2, c3, c4⟩ := hcase d2 n2 o2 e2
    rw [a2] at b1 hbe
    rw [c2] at b2 hbe
    obtain ⟨rfl, rfl⟩ := hh.inj _ _ _ _ _ _ a1 c1 b1 b2 hbe
    refine ⟨rfl, ?_⟩
    by_cases h : d = 0
    · rw [a3 h, c3 h]
    · rw [a4 h, c4 h]
  · intro b' hb' hno
    refine hh.old b' hb' fun d n o e hbk => ?_
    have := hno d n o (by simpa [objAt] using e) (by rw [r1]; exact hbk)
    rwa [r1] at this
  · intro n o e hbk
    obtain ⟨n0, h1, h2, _⟩ := hcase 0 n o e
    rw [h2] at hbk ⊢
    exact hh.loc _ _ h1 hbk
  · intro d
    funext n
    rw [r1, hh.outer]
  · simp only [look_renσ] at e
    cases hl : look s.σ t with
    | none => simp [hl] at e
    | some d0 =>
      simp only [hl, Option.map_some, Option.some.injEq] at e
      subst e
      have := hi.slots _ _ hl
      rw [hS] at this
      exact this.ren hren
end
end Go.AI


namespace Go.AI
open Go.Proofs
set_option maxRecDepth 20000
theorem checkVrs_zero {all : List Vr} : ∀ {l : List Vr} {i : Nat}, checkVrs all l i = 0 → ∀ v ∈ l, (-65536 ≤ v.low ∧ v.high ≤ 65536) ∧ v.low ≤ v.init ∧ v.init ≤ v.high
  | [], _, _, v, hv => by simp at hv
  | x :: r, i, h, v, hv => by
    simp only [checkVrs] at h
    split at h
    · rename_i e he
      subst h
      unfold checkVr at he
      split at he; · cases he
      split at he; · cases he
      split at he; · cases he
      split at he; · cases he
      split at he <;> cases he
    · rename_i he
      rcases List.mem_cons.1 hv with rfl | hv
      · unfold checkVr at he
        split at he; · cases he
        split at he; · cases he
        split at he; · cases he
        rename_i h3
        split at he; · cases he
        split at he; · cases he
        rename_i h4 h5
        simp only [checkVr.large, Bool.or_eq_true, decide_eq_true_eq, not_or] at h3
        omega
      · exact checkVrs_zero h v hv
theorem vars_ok {l : List Vr} (h : varsErr l = 0) : ∀ v ∈ l, (-65536 ≤ v.low ∧ v.high ≤ 65536) ∧ v.low ≤ v.init ∧ v.init ≤ v.high := by
  unfold varsErr at h
  split at h
  · cases h
  · exact checkVrs_zero h
/-- A right state. -/
def okS (m : Ext) (s : Sta) : Prop := (0 ≤ s.loc ∧ s.loc < m.locs) ∧ within m.vars s.vals = true
/-- What search has found. -/
structure Srch where
  sts : List Sta
  frm : List (Int × Int)
  flt : Int × Int
  kind : Int
end Go.AI


namespace Go.AI
open Go.Proofs
set_option maxRecDepth 20000
/-- What the loops know of what was found. -/
structure Good (m : Ext) (S : Srch) : Prop where
  len : S.sts.length ≤ 4096
  ok : ∀ s ∈ S.sts, okS m s
  fl : S.frm.length = S.sts.length
end Go.AI


namespace Go.AI
open Go.Proofs
set_option maxRecDepth 20000
end Go.AI




/- slices.Reverse: a callee of the library that writes into its caller's object. -/
namespace Go.AI
open Go.Proofs
/-- Cells, written from a place on. -/
def over (c : Array Value) : Nat → List Value → Array Value
  | _, [] => c
  | o, v :: r => over (c.setIfInBounds o v) (o + 1) r
theorem over_size : ∀ (vs : List Value) (c : Array Value) (o : Nat), (over c o vs).size = c.size
  | [], c, o => rfl
  | v :: r, c, o => by simp only [over, over_size r, Array.size_setIfInBounds]
theorem over_get : ∀ (vs : List Value) (c : Array Value) (o j : Nat), o + vs.length ≤ c.size → (over c o vs)[j]? = if o ≤ j ∧ j < o + vs.length then vs[j - o]? else c[j]?
  | [], c, o, j, _ => by
    simp only [over, List.length_nil, Nat.add_zero]
    rw [if_neg (by omega)]
  | v :: r, c, o, j, h => by
    simp only [List.length_cons] at h
    simp only [over]
    rw [over_get r _ _ _ (by simp only [Array.size_setIfInBounds]; omega)]
    simp only [List.length_cons]
    by_cases h1 : o + 1 ≤ j ∧ j < o + 1 + r.length
    · rw [if_pos h1, if_pos (by omega), show j - o = (j - (o + 1)) + 1 by omega]
      simp
    · rw [if_neg h1]
      by_cases h2 : j = o
      · subst h2
        rw [if_pos (by omega)]
        simp only [Nat.sub_self, List.getElem?_cons_zero, Array.getElem?_setIfInBounds]
        rw [if_pos trivial, if_pos (by omega)]
      · rw [if_neg (by omega), Array.getElem?_setIfInBounds, if_neg (by omega)]
theorem setCells_heap {b : Nat} : ∀ (vs : List Value) (o : Nat) (w : World) (c : Array Value) (ty : TypeId) (fr : Nat × Nat), w.heap[b]? = some (.cells c ty fr) →
    (w.setCells b o vs).heap[b]? = some (.cells (over c o vs) ty fr) ∧ (∀ b', b' ≠ b → (w.setCells b o vs).heap[b']? = w.heap[b']?) ∧ (w.setCells b o vs).heap.size = w.heap.size ∧
      (w.setCells b o vs).tape = w.tape ∧ (w.setCells b o vs).os = w.os ∧ (w.setCells b o vs).output = w.output
  | [], o, w, c, ty, fr, h => ⟨h, fun _ _ => rfl, rfl, rfl, rfl, rfl⟩
  | v :: r, o, w, c, ty, fr, h => by
    have h1 : (w.setCell ⟨b, o, none⟩ v).heap[b]? = some (.cells (c.setIfInBounds o v) ty fr) := by
      simp [World.setCell, Array.getElem?_modify, h]
    have h2 : ∀ b', b' ≠ b → (w.setCell ⟨b, o, none⟩ v).heap[b']? = w.heap[b']? := fun b' hb => by
      simp only [World.setCell, Array.getElem?_modify]
      rw [if_neg (fun e => hb e.symm)]
    obtain ⟨a1, a2, a3, a4, a5, a6⟩ := setCells_heap r (o + 1) (w.setCell ⟨b, o, none⟩ v) _ ty fr h1
    refine ⟨a1, fun b' hb => (a2 b' hb).trans (h2 b' hb), a3.trans (by simp [World.setCell]), a4, a5, a6⟩
end Go.AI


namespace Go.AI
open Go.Proofs
set_option maxRecDepth 20000
/-- Back from a place to the start. -/
def back (frm : List (Int × Int)) : Nat → Int × Int → List Int
  | 0, _ => []
  | f + 1, p => if p.1 < 0 then [] else p.2 :: back frm f (frm.getD p.1.toNat (-1, -1))
/-- Each place was found from an earlier one. -/
structure Linked (S : Srch) : Prop where
  len : S.frm.length = S.sts.length
  frm : ∀ k (h : k < S.frm.length), S.frm[k].1 < k
  flt : S.flt.1 < S.sts.length
  most : S.sts.length ≤ 4096
end Go.AI


namespace Go.AI
open Go.Proofs
set_option maxRecDepth 20000
end Go.AI


namespace Go.AI
open Go.Proofs
set_option maxRecDepth 20000
theorem exOk_leaf (o v i : Int) : exOk (.mk o v i []) := ⟨Nat.zero_le _, trivial⟩
theorem exOk_two {o v i : Int} {a b : Ex} (ha : exOk a) (hb : exOk b) : exOk (.mk o v i [a, b]) := ⟨by simp [max63], ha, hb, trivial⟩
end Go.AI


/- Plain laws: decimal texts; the counter up to a number. -/
namespace Go.AI
set_option maxRecDepth 20000
section
variable {h : Int} (h1 : 1 ≤ h) (h2 : h ≤ 8191)
include h1 h2
variable {k : Int} (k1 : 0 ≤ k) (k2 : k ≤ h)
omit h1 in
include k1 k2 in
include k1 k2 in
omit h1 in
include k1 k2 in
omit h1 in
include k1 k2 in
omit h1 in
include k1 k2 in
include k1 k2 in
include k1 k2 in
end
end Go.AI


/- Plain law: what is reached of the counter up to a number. -/
namespace Go.AI
set_option maxRecDepth 20000
def cnt (n : Nat) : List Sta := (List.range n).map fun (i : Nat) => (⟨0, [(i : Int)]⟩ : Sta)
section
variable {H : Nat} (h1 : 1 ≤ H) (h2 : H ≤ 8191)
include h1 h2
end
end Go.AI


namespace Go.AI
open Go.Proofs
set_option maxRecDepth 20000
/-- Arguments in other words. -/
theorem ASpecT.co {g : Nat} {tab : Obj} {P : Program} {f : FuncId} {args args' : List D} {O O' : List Heap} {res : D} {Hr : Heap} (h : ASpecT g tab P f args' O res Hr O') (hc : CoDL args args') : ASpecT g tab P f args O res Hr O' :=
  fun E K ρ w vs hw ht hr => h E K ρ w vs hw ht (hc.rep hr)
end Go.AI


namespace Go.AI
open Go.Proofs
set_option maxRecDepth 20000
end Go.AI


/- The way from a row to a contract. -/
namespace Go.Proofs.YtonnakcgopcfnaaDoor
open Go.ChangeShapes Go.WideShapes Go.ChangeAt Go.RowKit
set_option maxRecDepth 100000
theorem Tryd.own : ownKnob Tryd.prog.godebug = none := by kernel_rfl
theorem powG : Tryd.prog.globalNamed "internal/strconv.uint64pow10" = some 0 := by kernel_rfl
theorem isTab0 : AI.IsTab 0 := fun _ _ _ h => AI.tabIs_of powG h
theorem tab_of_laid {W : World} (h : laidMetH Tryd.prog [("math/bits.deBruijn32tab", Rows.laid_math_bits_deBruijn32tab), ("math/bits.deBruijn64tab", Rows.laid_math_bits_deBruijn64tab), ("internal/strconv.uint64pow10", Rows.laid_internal_strconv_uint64pow10)] W) :
    ∃ ty fr, W.heap[0]? = some (AI.ptab ty fr) := by
  rw [MakeChecks.laidMetH_plain _ _ _ (by kernel_rfl)] at h
  have h3 := laidMet.tail (laidMet.tail h)
  have hT : Lib.TabIs Tryd.prog W "internal/strconv.uint64pow10" .u64 Lib.pow10Tab :=
    Lib.tabIs_of_head (t := 271) (e := 23) (n := 20) powG (by kernel_rfl) (by kernel_rfl) (by kernel_rfl) (by kernel_rfl) (by kernel_rfl) (rest := []) h3
  unfold Lib.TabIs World.var? at hT
  rw [powG] at hT
  simp only [Option.bind_some] at hT
  cases hc : W.heap[0]? with
  | none => rw [hc] at hT; cases hT
  | some o =>
    rw [hc] at hT
    cases o with
    | cells cs ty fr =>
      simp only [Option.some.injEq] at hT
      subst hT
      exact ⟨ty, fr, rfl⟩
    | _ => cases hT
/-- A contract with no memory of one's own, from the outside. -/
theorem calls_of {f : FuncId} {args : List AI.D} {vs : List Value} {b : Bool} {W : World} {ty : TypeId} {fr : Nat × Nat} (h0 : W.heap[0]? = some (AI.ptab ty fr))
    (hcall : ∀ a w, (callFunc f a).run Tryd.prog w = .ok (.enter f a) w) (hs : AI.ASpecT 0 (AI.ptab ty fr) Tryd.prog f args [] (AI.bb b) [] [])
    {K : AI.Kn} (hK : ∀ bl o x, K bl o = some x → W.cell? ⟨bl, o, none⟩ = some x) (hr : ∀ ρ sh, AI.RepDL K ρ sh vs args) :
    Calls Tryd.prog f vs.toArray W fun e W' => e = .returned (.bool b) ∧ (∀ i, i < W.heap.size → W'.heap[i]? = W.heap[i]?) ∧ W'.os = W.os ∧ W'.output = W.output := by
  let ρ : Nat → Nat → AI.Loc := fun _ _ => ⟨0, 0, none⟩
  have hobj : ∀ d n, AI.objAt [] d n = none := fun d n => by simp [AI.objAt]
  have hI : AI.HInv (AI.Env.of K ρ W) K ρ [] W :=
    ⟨hK, (fun d n ob e => absurd ((hobj d n).symm.trans e) (by simp)), (fun d n ob d' n' ob' e => absurd ((hobj d n).symm.trans e) (by simp)), Nat.le_refl _, fun _ _ _ => rfl, (fun n ob e => absurd ((hobj 0 n).symm.trans e) (by simp)), fun _ => rfl, fun _ _ _ h => h, fun _ _ _ h => .inl h, rfl, rfl, rfl⟩
  have ht : AI.TabQ 0 (AI.ptab ty fr) [] ρ W := ⟨h0, fun d n x e => by simp [AI.shape, hobj] at e⟩
  rcases hs _ K ρ W vs hI ht (hr _ _) with ⟨_, h⟩ | ⟨v, w', h, _⟩
  · refine h.mono fun e W' => ?_
    rintro ⟨v, rfl, K', ρ', h1, h2⟩
    obtain rfl := AI.inv_v h2
    refine ⟨rfl, fun i hi => h1.old i hi fun d n ob e => ?_, h1.rest.2.1, h1.rest.2.2⟩
    simp [AI.objAt] at e
  · rw [hcall] at h
    cases h
theorem kept_of {W W' : World} {P : MemPlace → Prop} (h : ∀ i, i < W.heap.size → W'.heap[i]? = W.heap[i]?) (h1 : W'.os = W.os) (h2 : W'.output = W.output) : W.keptBut W' P := by
  refine ⟨h1, h2, fun i hi => ?_⟩
  rw [h i hi]
  exact (World.keptBut_refl W P).2.2 i hi
end Go.Proofs.YtonnakcgopcfnaaDoor


namespace Go.AI
open Go.Proofs
set_option maxRecDepth 20000
def byteOk (l : List Int) : Prop := ∀ b ∈ l, 0 ≤ b ∧ b ≤ 255
def b0 (l : List Int) : Int := match l with
  | [] => 0
  | b :: _ => b
end Go.AI


namespace Go.AI
open Go.Proofs
set_option maxRecDepth 20000
/-- Right bytes, and counts that do not grow far. -/
structure gOk (r : Ex × List Int × Nat) (n : Nat) (N : Nat) : Prop where
  b : byteOk r.2.1
  l : r.2.1.length ≤ n
  k : r.2.2 ≤ N
end Go.AI


namespace Go.AI
open Go.Proofs
set_option maxRecDepth 20000
structure byt (b : Int) : Prop where
  h0 : 0 ≤ b
  h1 : b ≤ 255
theorem byt.m2 {b : Int} (h : byt b) : b.tmod 2 = b % 2 := Int.tmod_eq_emod_of_nonneg h.h0
def tyOf (t : Bool) : Int := match t with
  | true => 1
  | false => 2
end Go.AI


namespace Go.AI
open Go.Proofs
set_option maxRecDepth 20000
abbrev r8I (p : Int × Int) : List I := [.v (.int .i8 p.1), .v (.int .i8 p.2)]
abbrev r8s (l : List (Int × Int)) : D := .i (.sl 2 l.length (l.map r8I))
abbrev ovrs (l : List Vr) : Ob := .arr 61 4 l.length (l.map vrI) true
def nameR (i : Nat) : ByteArray := ⟨#[120]⟩ ++ bytesOf [IntKind.u8.wrap (48 + IntKind.u8.wrap (i : Int))]
/-- A variable that two small numbers describe. -/
def rngV (i : Nat) (p : Int × Int) : Vr := ⟨nameR i, p.1.tmod 5, p.1.tmod 5 + p.2 % 256 % 4, p.1.tmod 5 + p.2 % 256 / 4 % (p.2 % 256 % 4 + 1)⟩
def rngsR (l : List (Int × Int)) : List Vr := (List.range (min l.length 3)).map fun i => rngV i (l.getD i (0, 0))
def pairOk (p : Int × Int) : Prop := -128 ≤ p.1 ∧ p.1 ≤ 127 ∧ -128 ≤ p.2 ∧ p.2 ≤ 127
theorem ovrs_app (l : List Vr) (v : Vr) : Ob.arr 61 4 (l.length + 1) (l.map vrI ++ [vrI v]) true = ovrs (l ++ [v]) := by simp
theorem nameR_size (i : Nat) : (nameR i).size = 2 := by
  unfold nameR bytesOf
  simp only [List.foldl_cons, List.foldl_nil]
  rw [ByteArray.size_append, ByteArray.size_push]
  rfl
theorem wu8 (n : Int) : IntKind.u8.wrap n = n % 256 := by
  unfold IntKind.wrap
  simp [IntKind.bits, IntKind.signed]
theorem ranges45 (O : List Heap) (l : List (Int × Int)) (hl : l.length ≤ max63) (hp : ∀ p ∈ l, pairOk p) : ASpec Tryd.prog 16 [r8s l] O (vrs (rngsR l)) [] O := by
  refine aspec_stop [7] Tk Tryd.func16 rfl Tryd.call16 Tryd.ntmps16 (Nat.le_of_ble_eq_true rfl) fun E => ?_
  refine g_run Tk Tryd.func16 ?_
  refine g_loop ?_
  refine rch_wk (wk_nil 3 58 61 4 rfl rfl rfl) ?_
  refine rch_loop2 (fun i : Nat => [(0, r8s l), (3, .osl 0 58), (4, ii i)]) (fun i => [(58, ovrs ((List.range i).map fun i => rngV i (l.getD i (0, 0))))]) (fun _ => O) 60
    (fun i => i ≤ min l.length 3) (fun i => min l.length 3 - i) 0 (Nat.zero_le _) ⟨rfl, rfl, rfl, trivial⟩ rfl ⟨rfl, trivial⟩ rfl rfl ?_
  rintro i hi ih
  have hend : i = min l.length 3 → vrs (rngsR l) = vrs ((List.range i).map fun i => rngV i (l.getD i (0, 0))) := fun e => by rw [e]; rfl
  have hsucc : (List.range (i + 1)).map (fun i => rngV i (l.getD i (0, 0))) = (List.range i).map (fun i => rngV i (l.getD i (0, 0))) ++ [rngV i (l.getD i (0, 0))] := by rw [List.range_succ, List.map_append]; rfl
  have hlen : ((List.range i).map fun i => rngV i (l.getD i (0, 0))).length = i := by simp
  generalize rngsR l = R at *
  generalize (List.range i).map (fun i => rngV i (l.getD i (0, 0))) = acc at *
  refine g_run Tk Tryd.func16 ?_
  first | refine g_cnd Tk Tryd.func16 rfl (fun h1 => ?_) (fun h1 => ?_) | refine g_know Tk Tryd.func16 rfl (fun h1 => ?_) (fun h1 => ?_) | refine s_know Tk (fun h1 => ?_) (fun h1 => ?_)
  · have h1 : i < l.length := by have := of_decide_eq_true h1; omega
    first | refine g_cnd Tk Tryd.func16 rfl (fun h2 => ?_) (fun h2 => ?_) | refine g_know Tk Tryd.func16 rfl (fun h2 => ?_) (fun h2 => ?_) | refine s_know Tk (fun h2 => ?_) (fun h2 => ?_)
    · have h2 : i < 3 := by have := of_decide_eq_true h2; omega
      have hgd : l.getD i (0, 0) = l[i] := by simp [h1]
      have hm := List.getElem_mem h1
      have hg : (l.map r8I)[(i : Int).toNat]? = some (r8I l[i]) := get_mapZ h1
      rw [hgd] at hsucc
      generalize l[i] = p at *
      obtain ⟨a, b⟩ := p
      obtain ⟨ha0, ha1, hb0, hb1⟩ := hp _ hm
      simp only at ha0 ha1 hb0 hb1
      have hlo : IntKind.i64.wrap (a.tmod 5) = a.tmod 5 := by
        have := Int.tmod_lt_of_pos a (show (0 : Int) < 5 by decide)
        have := Int.lt_tmod_of_pos a (show (0 : Int) < 5 by decide)
        rw [w64 (by omega) (by omega)]
      have hwd : IntKind.i64.wrap ((IntKind.u8.wrap b).tmod 4) = b % 256 % 4 := by
        rw [wu8, Int.tmod_eq_emod_of_nonneg (by omega), w64 (by omega) (by omega)]
      first | refine g_need Tk Tryd.func16 (by exact ⟨by omega, by show (i : Int) < (l.length : Int); omega⟩) ?_ | refine s_need Tk (by exact ⟨by omega, by show (i : Int) < (l.length : Int); omega⟩) ?_
      first | refine g_need Tk Tryd.func16 (by decide) ?_ | refine s_need Tk (by decide) ?_
      first | refine g_elem Tk Tryd.func16 (hg) ?_ | refine s_elem Tk (hg) ?_
      first | refine g_need Tk Tryd.func16 (by decide) ?_ | refine s_need Tk (by decide) ?_
      first | refine g_need Tk Tryd.func16 (by exact ⟨by omega, by show (i : Int) < (l.length : Int); omega⟩) ?_ | refine s_need Tk (by exact ⟨by omega, by show (i : Int) < (l.length : Int); omega⟩) ?_
      first | refine g_need Tk Tryd.func16 (by decide) ?_ | refine s_need Tk (by decide) ?_
      first | refine g_elem Tk Tryd.func16 (hg) ?_ | refine s_elem Tk (hg) ?_
      first | refine g_need Tk Tryd.func16 (by decide) ?_ | refine s_need Tk (by decide) ?_
      refine g_stop ?_
      refine rch_meet (l := [(0, r8s l), (3, .osl 0 58), (4, ii i), (5, ii (a.tmod 5)), (6, ii (b % 256 % 4))]) (Hv := [(58, ovrs acc)]) (n := 60) ?_ ⟨rfl, rfl, rfl, congrArg ii hlo, congrArg ii hwd, trivial⟩ rfl ⟨rfl, trivial⟩ rfl rfl
      refine g_run Tk Tryd.func16 ?_
      refine g_go Tk Tryd.func16 ?_
      refine g_drawn Tk Tryd.func16 mixedT rfl ?_
      have hsz := nameR_size i
      unfold nameR at hsz
      rw [ByteArray.size_append] at hsz
      have hw1 : IntKind.i64.wrap (b % 256 % 4 + 1) = b % 256 % 4 + 1 := w64 (by omega) (by omega)
      have hq : IntKind.i64.wrap (IntKind.u8.wrap ((IntKind.u8.wrap b).tdiv 4)) = b % 256 / 4 := by
        rw [wu8, wu8, Int.tdiv_eq_ediv_of_nonneg (by omega), w64 (by omega) (by omega)]
        omega
      have hmod := Int.emod_nonneg (b % 256 / 4) (show b % 256 % 4 + 1 ≠ 0 by omega)
      have hmod2 := Int.emod_lt_of_pos (b % 256 / 4) (show 0 < b % 256 % 4 + 1 by omega)
      have hl5 := Int.tmod_lt_of_pos a (show (0 : Int) < 5 by decide)
      have hg5 := Int.lt_tmod_of_pos a (show (0 : Int) < 5 by decide)
      first | refine g_need Tk Tryd.func16 (by omega) ?_ | refine s_need Tk (by omega) ?_
      first | refine g_need Tk Tryd.func16 (by exact ⟨by omega, by show (i : Int) < (l.length : Int); omega⟩) ?_ | refine s_need Tk (by exact ⟨by omega, by show (i : Int) < (l.length : Int); omega⟩) ?_
      first | refine g_need Tk Tryd.func16 (by decide) ?_ | refine s_need Tk (by decide) ?_
      first | refine g_elem Tk Tryd.func16 (hg) ?_ | refine s_elem Tk (hg) ?_
      first | refine g_need Tk Tryd.func16 (by decide) ?_ | refine s_need Tk (by decide) ?_
      first | refine g_need Tk Tryd.func16 (by rw [hw1]; omega) ?_ | refine s_need Tk (by rw [hw1]; omega) ?_
      have hin : (b % 256 / 4).tmod (b % 256 % 4 + 1) = (b % 256 / 4) % (b % 256 % 4 + 1) := Int.tmod_eq_emod_of_nonneg (by omega)
      refine e_tail Tk Tryd.func16 ([26, 27]) (by kernel_rfl) (by kernel_rfl) ?_
      first | refine g_need Tk Tryd.func16 (by exact ⟨by show (acc.length + 1) * 40 ≤ 140737488355328; omega, by show acc.length + 1 ≤ 9223372036854775807; omega⟩) ?_ | refine s_need Tk (by exact ⟨by show (acc.length + 1) * 40 ≤ 140737488355328; omega, by show acc.length + 1 ≤ 9223372036854775807; omega⟩) ?_
      refine g_loop ?_
      refine ih (i + 1) _ _ (by omega) (by omega) ⟨rfl, rfl, congrArg ii (wsucc h1 hl), trivial⟩ rfl ⟨?_, trivial⟩ rfl rfl
      rw [hsucc, ← ovrs_app]
      show some (Ob.arr 61 4 (acc.length + 1) (acc.map vrI ++ [[.v (.string (⟨#[120]⟩ ++ bytesOf [IntKind.u8.wrap (48 + IntKind.u8.wrap (i : Int))])), vi (a.tmod 5), vi _, vi _]]) true) = _
      rw [hw1, hq, hin, w64 (by omega) (by omega), w64 (by omega) (by omega)]
      rfl
    · have h2 : ¬ i < 3 := by have := of_decide_eq_false h2; omega
      have := hend (by omega)
      refine g_rwk (wk_freeze 58 rfl rfl) ?_
      refine g_ret Tk (r := vrs acc) rfl rfl rfl trivial rfl rfl ?_
      exact this.symm
  · have h1 : ¬ i < l.length := by have := of_decide_eq_false h1; omega
    have := hend (by omega)
    repeat (first | refine g_cnd Tk Tryd.func16 rfl (fun _ => ?_) (fun h => absurd h (by decide)) | refine g_cnd Tk Tryd.func16 rfl (fun h => absurd h (by decide)) (fun _ => ?_) | refine g_know Tk Tryd.func16 rfl (fun _ => ?_) (fun h => absurd h (by decide)) | refine g_know Tk Tryd.func16 rfl (fun h => absurd h (by decide)) (fun _ => ?_) | refine s_know Tk (fun _ => ?_) (fun h => absurd h (by decide)) | refine s_know Tk (fun h => absurd h (by decide)) (fun _ => ?_))
    refine g_rwk (wk_freeze 58 rfl rfl) ?_
    refine g_ret Tk (r := vrs acc) rfl rfl rfl trivial rfl rfl ?_
    exact this.symm
end Go.AI


namespace Go.AI
open Go.Proofs
set_option maxRecDepth 20000
/-- A line of a sketch, and a sketch. -/
structure Lin where
  a0 : Int
  a1 : Int
  a2 : Int
  g : List Int
  u : List Int
structure Sk where
  locs : Int
  marks : Int
  rngs : List (Int × Int)
  lines : List Lin
structure linOk (x : Lin) : Prop where
  a0 : 0 ≤ x.a0 ∧ x.a0 ≤ 255
  a1 : 0 ≤ x.a1 ∧ x.a1 ≤ 255
  a2 : 0 ≤ x.a2 ∧ x.a2 ≤ 255
  g : byteOk x.g
  gl : x.g.length ≤ max63
  u : byteOk x.u
  ul : x.u.length ≤ max63
structure skOk (k : Sk) : Prop where
  locs : 0 ≤ k.locs ∧ k.locs ≤ 255
  marks : 0 ≤ k.marks ∧ k.marks ≤ 255
  rl : k.rngs.length ≤ max63
  r : ∀ p ∈ k.rngs, pairOk p
  ll : k.lines.length ≤ max63
  l : ∀ x ∈ k.lines, linOk x
theorem rngsR_len (l : List (Int × Int)) : (rngsR l).length = min l.length 3 := by simp [rngsR]
end Go.AI


/- Arguments: slices and structs of them, opened to data, and read again behind the call. -/
namespace Go.Proofs.YtonnakcgopcfnaaDoor
open Go.ChangeShapes Go.WideShapes Go.ChangeAt Go.RowKit Go.Deep Go.WideElems
set_option maxRecDepth 100000
/-- All that memory holds. -/
def KW (W : World) : AI.Kn := fun b o => W.cell? ⟨b, o, none⟩
theorem KW_ok (W : World) : ∀ bl o x, KW W bl o = some x → W.cell? ⟨bl, o, none⟩ = some x := fun _ _ _ h => h
section
variable {H : Type} {enc : TypeId × Value → H} {P : Program} {W : World}
/-- What is read of a type is data of a kind. -/
def Opn (enc : TypeId × Value → H) (P : Program) (W : World) (t : TypeId) (R : List AI.I → Prop) : Prop :=
  ∀ n cs x, DataW.trod enc P W 0 (fun _ => true) true n t cs = some x → ∃ is, AI.RepL (KW W) cs is ∧ R is
theorem repL_app {K : AI.Kn} {a b : List Value} {c d : List AI.I} (h : AI.RepL K a c) (h' : AI.RepL K b d) : AI.RepL K (a ++ b) (c ++ d) := h.append h'
theorem ints_rep {K : AI.Kn} {k : IntKind} : ∀ {cs : List Value}, (∀ i, i < cs.length → ∃ z, cs[i]? = some (.int k z) ∧ (Lit.int k z).wf = true) → ∃ zs : List Int, zs.length = cs.length ∧ AI.RepL K cs (zs.map fun z => .v (.int k z)) ∧ ∀ z ∈ zs, (Lit.int k z).wf = true
  | [], _ => ⟨[], rfl, .nil, by simp⟩
  | c :: cs, h => by
    obtain ⟨z, hz, hw⟩ := h 0 (by simp)
    simp only [List.getElem?_cons_zero, Option.some.injEq] at hz
    subst hz
    obtain ⟨zs, h1, h2, h3⟩ := ints_rep (cs := cs) fun i hi => by
      have := h (i + 1) (by simp; omega)
      simpa using this
    exact ⟨z :: zs, by simp [h1], .cons (.v rfl) h2, fun y hy => by
      rcases List.mem_cons.1 hy with rfl | hy
      · exact hw
      · exact h3 y hy⟩
theorem opn_array {t e : TypeId} {k : IntKind} {m : Nat} (ht : P.underlying t = some (.array m e)) (he : P.underlying e = some (.int k)) (hc : P.cellsOf e = 1) (hct : P.cellsOf t = m) :
    Opn enc P W t fun is => ∃ zs : List Int, zs.length = m ∧ is = zs.map (fun z => .v (.int k z)) ∧ ∀ z ∈ zs, (Lit.int k z).wf = true := by
  intro n cs x h
  obtain ⟨xs, f, rfl, rfl, hl, hlen, hx⟩ := DataW.trod_array ht h
  rw [hct] at hl
  obtain ⟨zs, h1, h2, h3⟩ := ints_rep (K := KW W) (k := k) (cs := cs) fun i hi => by
    have h0 := hx i (by omega)
    rw [hc, Nat.mul_one, List.getElem?_eq_getElem (by omega)] at h0
    obtain ⟨z, hz, _, hw⟩ := DataW.trod_int he h0
    refine ⟨z, ?_, hw⟩
    have := congrArg (fun l => l[0]?) hz
    simpa [List.getElem?_take, List.getElem?_drop] using this
  exact ⟨_, h2, zs, by omega, rfl, h3⟩
/-- A slice. -/
theorem opn_slice {t e : TypeId} {z : Nat} {R : List AI.I → Prop} (ht : P.underlying t = some (.slice e)) (hc : P.cellsOf e = z) (hz : 0 < z) (he : Opn enc P W e R) :
    Opn enc P W t fun is => ∃ xs : List (List AI.I), is = [.sl z xs.length xs] ∧ (∀ d ∈ xs, R d) ∧ xs.length ≤ maxLen := by
  intro n cs x h
  rcases open_slice ht h with ⟨rfl, _⟩ | ⟨a, len, cap, m, f, D, Pl, rfl, _, hle, hm, hmm, _, hx⟩
  · exact ⟨[.sl z 0 []], .cons .nil .nil, [], rfl, by simp, Nat.zero_le _⟩
  · simp only [if_true] at hmm
    subst hmm
    rw [hc] at hx
    by_cases h0 : m = 0
    · subst h0
      obtain rfl : len = 0 := by omega
      exact ⟨[.sl z 0 []], .cons .nil .nil, [], rfl, by simp, Nat.zero_le _⟩
    · have hspot : a.spot = none := by
        obtain ⟨cs', h1, _⟩ := hx 0 (by omega)
        obtain ⟨_, hl, hcell⟩ := World.cells?_some h1
        have := hcell 0 hz
        rw [Nat.zero_mul] at this
        have ha : (a.add 0).add 0 = a := by simp [Addr.add]
        rw [ha, List.getElem?_eq_getElem (by omega)] at this
        unfold World.cell? at this
        cases hsp : a.spot with
        | none => rfl
        | some s =>
          rw [hsp] at this
          split at this <;> simp at this
      obtain ⟨bl, o, sp⟩ := a
      simp only at hspot
      subst hspot
      have build : ∀ k, k ≤ len → ∃ (xs : List (List AI.I)) (vs : List Value), xs.length = k ∧ vs.length = k * z ∧ AI.RepL (KW W) vs xs.flatten ∧ (∀ d ∈ xs, R d) ∧ (∀ d ∈ xs, d.length = z) ∧ ∀ j c, vs[j]? = some c → KW W bl (o + j) = some c := by
        intro k
        induction k with
        | zero => intro _; exact ⟨[], [], rfl, by simp, .nil, by simp, by simp, by simp⟩
        | succ k ih =>
          intro hk
          obtain ⟨xs, vs, h1, h2, h3, h4, h5, h6⟩ := ih (by omega)
          obtain ⟨cs', hc1, hc2⟩ := hx k (by omega)
          obtain ⟨_, hl, hcell⟩ := World.cells?_some hc1
          obtain ⟨is, hr, hR⟩ := he f cs' _ hc2
          refine ⟨xs ++ [is], vs ++ cs', by simp [h1], by simp [h2, hl, Nat.add_mul], ?_, ?_, ?_, ?_⟩
          · rw [List.flatten_append]
            simpa using repL_app h3 hr
          · intro d hd
            rcases List.mem_append.1 hd with h | h
            · exact h4 d h
            · simp only [List.mem_singleton] at h
              subst h
              exact hR
          · intro d hd
            rcases List.mem_append.1 hd with h | h
            · exact h5 d h
            · simp only [List.mem_singleton] at h
              subst h
              rw [← hr.length, hl]
          · intro j c hj
            rw [List.getElem?_append] at hj
            split at hj
            · exact h6 j c hj
            · rename_i hge
              have hlt : j - vs.length < cs'.length := (List.getElem?_eq_some_iff.1 hj).1
              have := hcell (j - vs.length) (by omega)
              rw [hj] at this
              unfold KW
              rw [← this]
              have e : ((⟨bl, o, none⟩ : Addr).add (k * z)).add (j - vs.length) = ⟨bl, o + j, none⟩ := by
                have e1 : (⟨bl, o, none⟩ : Addr).add (k * z) = ⟨bl, o + k * z, none⟩ := by unfold Addr.add; split <;> simp_all
                rw [e1]
                unfold Addr.add
                split
                · simp <;> omega
                · simp <;> omega
              rw [e]
      obtain ⟨xs, vs, h1, h2, h3, h4, h5, h6⟩ := build len (Nat.le_refl _)
      refine ⟨[.sl z xs.length xs], .cons ?_ .nil, xs, rfl, h4, by omega⟩
      rw [h1]
      exact .sl h3 h5 h6 hle h1
/-- Read again behind the call. -/
theorem args_again {t : TypeId} (hl : laidOutB P = true) (hr : P.readableRec t = true) (hrow : decide (t < P.types.size) = true) {W' : World} {v : Value} {d : DataW H} {ps : List MemPlace}
    (h : DataW.Trod enc P W 0 (fun _ => true) true t v d ps) (hold : ∀ i, i < W.heap.size → W'.heap[i]? = W.heap[i]?) : DataW.Trod enc P W' 0 (fun b => decide (b < W.heap.size)) true t v d ps := by
  have hlt : ∀ p ∈ ps, p.block < W.heap.size := by
    obtain ⟨n, hn⟩ := h
    exact DataW.trod_lt n t _ _ hn
  refine Trod_stays hl hr (of_decide_eq_true hrow) h (fun p hp => ?_) (fun p hp => decide_eq_true (hlt p hp))
  have hb := hlt p hp
  cases p with
  | cell b off =>
    show W'.cell? ⟨b, off, none⟩ = W.cell? ⟨b, off, none⟩
    unfold World.cell?
    rw [hold b hb]
  | map b => exact hold b hb
end
end Go.Proofs.YtonnakcgopcfnaaDoor


/- The arguments of the statements about sketched automata: data. -/
namespace Go.Proofs.YtonnakcgopcfnaaDoor
open Go.ChangeShapes Go.WideShapes Go.ChangeAt Go.RowKit Go.Deep Go.WideElems
set_option maxRecDepth 100000
section
variable {H : Type} {enc : TypeId × Value → H} {W : World}
theorem list_of {α β : Type} {f : α → β} {Q : α → Prop} : ∀ {xs : List β}, (∀ d ∈ xs, ∃ a, d = f a ∧ Q a) → ∃ l : List α, xs = l.map f ∧ ∀ a ∈ l, Q a
  | [], _ => ⟨[], rfl, by simp⟩
  | d :: xs, h => by
    obtain ⟨a, ha, hq⟩ := h d (by simp)
    obtain ⟨l, hl, hql⟩ := list_of (xs := xs) fun e he => h e (by simp [he])
    refine ⟨a :: l, by rw [ha, hl]; rfl, fun b hb => ?_⟩
    rcases List.mem_cons.1 hb with rfl | hb
    · exact hq
    · exact hql b hb
theorem wf_u8 {z : Int} (h : (Lit.int .u8 z).wf = true) : 0 ≤ z ∧ z ≤ 255 := by
  simp only [Lit.wf, Bool.and_eq_true, decide_eq_true_eq] at h
  have e1 : IntKind.u8.min = 0 := rfl
  have e2 : IntKind.u8.max = 255 := rfl
  rw [e1, e2] at h
  exact h
theorem wf_i8 {z : Int} (h : (Lit.int .i8 z).wf = true) : -128 ≤ z ∧ z ≤ 127 := by
  simp only [Lit.wf, Bool.and_eq_true, decide_eq_true_eq] at h
  have e1 : IntKind.i8.min = -128 := rfl
  have e2 : IntKind.i8.max = 127 := rfl
  rw [e1, e2] at h
  exact h
theorem maxLen63 {n : Nat} (h : n ≤ maxLen) : n ≤ AI.max63 := by
  simp only [maxLen] at h
  simp only [AI.max63]
  omega
theorem opn_pairs : Opn enc Tryd.prog W 22 fun is => ∃ l : List (Int × Int), is = [.sl 2 l.length (l.map AI.r8I)] ∧ (∀ x ∈ l, AI.pairOk x) ∧ l.length ≤ AI.max63 := by
  intro n cs x h
  obtain ⟨is, hr, xs, rfl, hx, hl⟩ := opn_slice Tryd.underlying22 (z := 2) (by kernel_rfl) (by decide) (opn_array Tryd.underlying144 Tryd.underlying143 (by kernel_rfl) (by kernel_rfl)) n cs x h
  obtain ⟨l, rfl, hq⟩ := list_of (f := AI.r8I) (Q := AI.pairOk) (xs := xs) fun d hd => by
    obtain ⟨zs, hz, he, hw⟩ := hx d hd
    match zs, hz with
    | [p, q], _ => exact ⟨(p, q), he, (wf_i8 (hw p (by simp))).1, (wf_i8 (hw p (by simp))).2, (wf_i8 (hw q (by simp))).1, (wf_i8 (hw q (by simp))).2⟩
  refine ⟨_, hr, l, by simp, hq, maxLen63 (by simpa using hl)⟩
end
end Go.Proofs.YtonnakcgopcfnaaDoor


namespace Go.AI
open Go.Proofs
set_option maxRecDepth 20000
instance staDec : DecidableEq Sta := fun a b => decidable_of_iff (a.loc = b.loc ∧ a.vals = b.vals) ⟨fun ⟨h1, h2⟩ => by cases a; cases b; cases h1; cases h2; rfl, fun h => by subst h; exact ⟨rfl, rfl⟩⟩
end Go.AI


namespace Go.AI
open Go.Proofs
set_option maxRecDepth 20000
end Go.AI


namespace Go.AI
open Go.Proofs
set_option maxRecDepth 20000
end Go.AI


namespace Go.AI
open Go.Proofs
set_option maxRecDepth 20000
end Go.AI


namespace Go.AI
open Go.Proofs
set_option maxRecDepth 20000
end Go.AI


namespace Go.AI
open Go.Proofs
set_option maxRecDepth 20000
mutual
def esz : Ex → Nat
  | .mk _ _ _ args => 1 + eszs args
def eszs : List Ex → Nat
  | [] => 0
  | e :: r => esz e + eszs r
end
mutual
def edep : Ex → Nat
  | .mk _ _ _ args => 1 + edeps args
def edeps : List Ex → Nat
  | [] => 0
  | e :: r => max (edep e) (edeps r)
end
/-- What a grown expression is like. -/
structure grown (vars : Int) (lv : Nat) (t : Bool) (k : Nat) (r : Ex × List Int × Nat) : Prop where
  wf : wfE vars r.1
  kind : kindR r.1 = tyOf t
  dep : edep r.1 ≤ lv + 2
  cnt : k < r.2.2
  sz : esz r.1 + 3 * min k 12 ≤ 3 * min r.2.2 12 + (if 12 ≤ k then 3 else if r.2.2 ≤ 12 then 0 else 6 * lv + 3)
end Go.AI


namespace Go.AI
open Go.Proofs
set_option maxRecDepth 20000
/-- What is known of the variables of a sketch. -/
structure vrOk (v : Vr) : Prop where
  lo : -4 ≤ v.low
  hi : v.high ≤ 7
  w : v.low ≤ v.high ∧ v.high ≤ v.low + 3
  ini : v.low ≤ v.init ∧ v.init ≤ v.high
  nm : v.name.size = 2
theorem rngV_ok (i : Nat) {p : Int × Int} (hp : pairOk p) : vrOk (rngV i p) := by
  have h1 := Int.tmod_lt_of_pos p.1 (show (0 : Int) < 5 by decide)
  have h2 := Int.lt_tmod_of_pos p.1 (show (0 : Int) < 5 by decide)
  have h3 := Int.emod_nonneg (p.2 % 256 / 4) (show p.2 % 256 % 4 + 1 ≠ 0 by omega)
  have h4 := Int.emod_lt_of_pos (p.2 % 256 / 4) (show 0 < p.2 % 256 % 4 + 1 by omega)
  refine ⟨?_, ?_, ?_, ?_, nameR_size i⟩ <;> simp only [rngV] <;> omega
theorem rngsR_ok {l : List (Int × Int)} (h : ∀ p ∈ l, pairOk p) : ∀ v ∈ rngsR l, vrOk v := by
  intro v hv
  simp only [rngsR, List.mem_map, List.mem_range] at hv
  obtain ⟨i, hi, rfl⟩ := hv
  have : l.getD i (0, 0) = l[i]'(by omega) := by simp [show i < l.length by omega]
  rw [this]
  exact rngV_ok i (h _ (List.getElem_mem _))
theorem checkVr_ok {ds : List Vr} {v : Vr} (hn : isNameB v.name = true) (hd : ds.any (fun x => x.name.toList == v.name.toList) = false) (h : vrOk v) : checkVr ds v = none := by
  have := h.lo
  have := h.hi
  have := h.w
  have := h.ini
  unfold checkVr
  rw [if_neg (by rw [hn]; simp), if_neg (by rw [hd]; simp), if_neg, if_neg (by omega), if_neg (by omega)]
  simp only [checkVr.large, Bool.or_eq_true, decide_eq_true_eq]
  omega
/-- In order. -/
def leMv (x y : Mv) : Prop := ¬ (y.frm < x.frm ∨ (y.frm = x.frm ∧ y.ev < x.ev))
/-- What a move of a sketch is like. -/
structure mvGood (L n : Int) (x : Mv) : Prop where
  frm : 0 ≤ x.frm ∧ x.frm < L
  to : 0 ≤ x.to ∧ x.to < L
  ev : x.ev = 0 ∨ x.ev = 1 ∨ x.ev = 2
  g : typedX x.g n 2 = 0
  us : x.us = [] ∨ ∃ u, x.us = [u] ∧ 0 ≤ u.v ∧ u.v < n ∧ typedX u.x n 1 = 0 ∧ exOk u.x
  gok : exOk x.g
/-- What a sketched automaton is like. -/
structure made (m : Ext) : Prop where
  al : m.alpha = [0, 1, 2]
  lo : 1 ≤ m.locs ∧ m.locs ≤ 4
  ini : m.init = 0
  vl : m.vars.length ≤ 2
  v : ∀ v ∈ m.vars, vrOk v
  ml : m.moves.length ≤ 8
  mv : ∀ x ∈ m.moves, mvGood m.locs m.vars.length x
  sorted : m.moves.Pairwise leMv
  ve : varsErr m.vars = 0
  ma : checkSet m.locs m.marked none = 0
  mal : m.marked.length ≤ 4
end Go.AI


namespace Go.AI
open Go.Proofs
set_option maxRecDepth 20000
/-- Right values of a sketched automaton. -/
structure valsOk (m : Ext) (l : List Int) : Prop where
  len : l.length = m.vars.length
  w : within m.vars l = true
end Go.AI


namespace Go.AI
open Go.Proofs
set_option maxRecDepth 20000
end Go.AI


namespace Go.AI
open Go.Proofs
set_option maxRecDepth 20000
end Go.AI


namespace Go.AI
open Go.Proofs
set_option maxRecDepth 20000
end Go.AI


namespace Go.AI
open Go.Proofs
set_option maxRecDepth 20000
def rangeI (lo hi : Int) : List Int := (List.range (hi - lo + 1).toNat).map fun (k : Nat) => lo + k
def allStep (out : List (List Int)) (v : Vr) : List (List Int) := out.flatMap fun vals => (rangeI v.low v.high).map fun n => vals ++ [n]
/-- All values of variables, in order. -/
def allV (l : List Vr) : List (List Int) := l.foldl allStep [[]]
theorem allStep_vals {out : List (List Int)} {v : Vr} {n : Nat} (h : ∀ x ∈ out, x.length = n) : ∀ x ∈ allStep out v, x.length = n + 1 := by
  intro x hx
  unfold allStep at hx
  simp only [List.mem_flatMap, List.mem_map] at hx
  obtain ⟨y, hy, z, _, rfl⟩ := hx
  simp [h y hy]
abbrev ointss (l : List (List Int)) : Ob := .arr 53 1 l.length (l.map fun x => [intsI x]) true
theorem ointss_app (l : List (List Int)) (x : List Int) : Ob.arr 53 1 (l.length + 1) ((l.map fun x => [intsI x]) ++ [[intsI x]]) true = ointss (l ++ [x]) := by simp
end Go.AI


/- Boxes, as plain data: containing, growing, covers. -/
namespace Go.AI
set_option maxRecDepth 20000
structure Bx where
  low : List Int
  high : List Int
def contB : List Int → List Int → List Int → Bool
  | v :: vs, l :: ls, h :: hs => !(decide (v < l) || decide (v > h)) && contB vs ls hs
  | _, _, _ => true
def Bx.has (b : Bx) (v : List Int) : Bool := contB v b.low b.high
def inBs (l : List Bx) (v : List Int) : Bool := l.any fun b => b.has v
/-- Down, while it is free. -/
def downR (free : Bx → Bool) (i : Nat) (lo : Int) : Nat → Bx → Bx
  | 0, b => b
  | n + 1, b => if b.low.getD i 0 > lo then (if free ⟨b.low.set i (b.low.getD i 0 - 1), b.high⟩ then downR free i lo n ⟨b.low.set i (b.low.getD i 0 - 1), b.high⟩ else b) else b
def upR (free : Bx → Bool) (i : Nat) (hi : Int) : Nat → Bx → Bx
  | 0, b => b
  | n + 1, b => if b.high.getD i 0 < hi then (if free ⟨b.low, b.high.set i (b.high.getD i 0 + 1)⟩ then upR free i hi n ⟨b.low, b.high.set i (b.high.getD i 0 + 1)⟩ else b) else b
def growV (free : Bx → Bool) (i : Nat) (v : Vr) (b : Bx) : Bx :=
  upR free i v.high (v.high - (downR free i v.low (b.low.getD i 0 - v.low).toNat b).high.getD i 0).toNat (downR free i v.low (b.low.getD i 0 - v.low).toNat b)
def growVs (free : Bx → Bool) : List Vr → Nat → Bx → Bx
  | [], _, b => b
  | v :: r, i, b => growVs free r (i + 1) (growV free i v b)
def coverL (free : Bx → Bool) (vars : List Vr) : List (List Int) → List Bx → List Bx
  | [], l => l
  | v :: r, l => coverL free vars r (if inBs l v then l else l ++ [growVs free vars 0 ⟨v, v⟩])
def thin (needed : List (List Int)) : List Bx → List Bx → List Bx
  | kept, [] => kept
  | kept, b :: rest => if needed.any (fun v => b.has v && !inBs (kept ++ rest) v) then thin needed (kept ++ [b]) rest else thin needed kept rest
def freeR (refused : List (List Int)) (b : Bx) : Bool := !refused.any b.has
def coversR (vars : List Vr) (needed refused : List (List Int)) : List Bx := thin needed [] (coverL (freeR refused) vars needed [])
def neededR : List (List Int) → List Bool → List Bool → List (List Int)
  | d :: ds, t :: ts, c :: cs => if c && t then d :: neededR ds ts cs else neededR ds ts cs
  | _, _, _ => []
def refusedR : List (List Int) → List Bool → List Bool → List (List Int)
  | d :: ds, t :: ts, c :: cs => if c && !t then d :: refusedR ds ts cs else refusedR ds ts cs
  | _, _, _ => []
/-- The cover of a table. -/
def coverR (vars : List Vr) (all : List (List Int)) (t care : List Bool) : List Bx := coversR vars (neededR all t care) (refusedR all t care)

/-! What a cover is. -/
theorem inBs_app (a b : List Bx) (v : List Int) : inBs (a ++ b) v = (inBs a v || inBs b v) := by simp [inBs]
theorem inBs_cons (a : Bx) (b : List Bx) (v : List Int) : inBs (a :: b) v = (a.has v || inBs b v) := by simp [inBs]
/-- A box within another one. -/
def Bx.sub (a b : Bx) : Prop := a.low.length = b.low.length ∧ a.high.length = b.high.length ∧ (∀ i, b.low.getD i 0 ≤ a.low.getD i 0) ∧ ∀ i, a.high.getD i 0 ≤ b.high.getD i 0
theorem Bx.sub_refl (a : Bx) : a.sub a := ⟨rfl, rfl, fun _ => Int.le_refl _, fun _ => Int.le_refl _⟩
theorem Bx.sub_trans {a b c : Bx} (h : a.sub b) (g : b.sub c) : a.sub c := ⟨h.1.trans g.1, h.2.1.trans g.2.1, fun i => Int.le_trans (g.2.2.1 i) (h.2.2.1 i), fun i => Int.le_trans (h.2.2.2 i) (g.2.2.2 i)⟩
theorem contB_mono : ∀ {v l h l' h' : List Int}, l.length = l'.length → h.length = h'.length → (∀ i, l'.getD i 0 ≤ l.getD i 0) → (∀ i, h.getD i 0 ≤ h'.getD i 0) → contB v l h = true → contB v l' h' = true
  | [], l, h, l', h', _, _, _, _, _ => by cases l' <;> cases h' <;> rfl
  | v :: vs, [], h, [], h', _, _, _, _, _ => by cases h' <;> rfl
  | v :: vs, [], h, _ :: _, h', e, _, _, _, _ => by cases e
  | v :: vs, _ :: _, h, [], h', e, _, _, _, _ => by cases e
  | v :: vs, l :: ls, [], l' :: ls', [], _, _, _, _, _ => rfl
  | v :: vs, l :: ls, [], l' :: ls', _ :: _, _, e, _, _, _ => by cases e
  | v :: vs, l :: ls, _ :: _, l' :: ls', [], _, e, _, _, _ => by cases e
  | v :: vs, l :: ls, h :: hs, l' :: ls', h' :: hs', e1, e2, e3, e4, g => by
    simp only [contB, Bool.and_eq_true, Bool.not_eq_true', Bool.or_eq_false_iff, decide_eq_false_iff_not] at g ⊢
    have a1 := e3 0
    have a2 := e4 0
    simp only [List.getD_cons_zero] at a1 a2
    refine ⟨⟨by omega, by omega⟩, contB_mono (by simpa using e1) (by simpa using e2) (fun i => by simpa using e3 (i + 1)) (fun i => by simpa using e4 (i + 1)) g.2⟩
theorem Bx.sub.has {a b : Bx} (h : a.sub b) {v : List Int} (g : a.has v = true) : b.has v = true := contB_mono h.1 h.2.1 h.2.2.1 h.2.2.2 g
theorem getD_set (l : List Int) (i j : Nat) (x : Int) : (l.set i x).getD j 0 = if i = j ∧ i < l.length then x else l.getD j 0 := by
  simp only [List.getD_eq_getElem?_getD, List.getElem?_set]
  by_cases h : i = j
  · subst h
    by_cases h2 : i < l.length
    · simp [h2]
    · simp [h2, List.getElem?_eq_none (Nat.le_of_not_lt h2)]
  · simp [h]
theorem down_sub (free : Bx → Bool) (i : Nat) (lo : Int) : ∀ (n : Nat) (b : Bx), b.sub (downR free i lo n b)
  | 0, b => b.sub_refl
  | n + 1, b => by
    simp only [downR]
    split
    · split
      · refine Bx.sub_trans (b := ⟨b.low.set i (b.low.getD i 0 - 1), b.high⟩) ⟨by simp, rfl, fun j => ?_, fun _ => Int.le_refl _⟩ (down_sub free i lo n _)
        simp only [getD_set]
        split
        · rename_i h; obtain ⟨rfl, -⟩ := h; omega
        · omega
      · exact b.sub_refl
    · exact b.sub_refl
theorem up_sub (free : Bx → Bool) (i : Nat) (hi : Int) : ∀ (n : Nat) (b : Bx), b.sub (upR free i hi n b)
  | 0, b => b.sub_refl
  | n + 1, b => by
    simp only [upR]
    split
    · split
      · refine Bx.sub_trans (b := ⟨b.low, b.high.set i (b.high.getD i 0 + 1)⟩) ⟨rfl, by simp, fun _ => Int.le_refl _, fun j => ?_⟩ (up_sub free i hi n _)
        simp only [getD_set]
        split
        · rename_i h; obtain ⟨rfl, -⟩ := h; omega
        · omega
      · exact b.sub_refl
    · exact b.sub_refl
theorem growVs_sub (free : Bx → Bool) : ∀ (l : List Vr) (i : Nat) (b : Bx), b.sub (growVs free l i b)
  | [], _, b => b.sub_refl
  | v :: r, i, b => Bx.sub_trans (Bx.sub_trans (down_sub free i v.low _ b) (up_sub free i v.high _ _)) (growVs_sub free r (i + 1) _)
theorem down_free {free : Bx → Bool} {i : Nat} {lo : Int} : ∀ {n : Nat} {b : Bx}, free b = true → free (downR free i lo n b) = true
  | 0, b, h => h
  | n + 1, b, h => by
    simp only [downR]
    split
    · split
      · rename_i h2; exact down_free h2
      · exact h
    · exact h
theorem up_free {free : Bx → Bool} {i : Nat} {hi : Int} : ∀ {n : Nat} {b : Bx}, free b = true → free (upR free i hi n b) = true
  | 0, b, h => h
  | n + 1, b, h => by
    simp only [upR]
    split
    · split
      · rename_i h2; exact up_free h2
      · exact h
    · exact h
theorem growVs_free {free : Bx → Bool} : ∀ {l : List Vr} {i : Nat} {b : Bx}, free b = true → free (growVs free l i b) = true
  | [], _, _, h => h
  | v :: r, i, b, h => growVs_free (l := r) (up_free (down_free h))
theorem contB_self : ∀ (v : List Int), contB v v v = true
  | [] => rfl
  | x :: r => by simp [contB, contB_self r]
theorem contB_eq : ∀ {v w : List Int}, v.length = w.length → contB v w w = true → v = w
  | [], [], _, _ => rfl
  | x :: r, y :: s, e, h => by
    simp only [contB, Bool.and_eq_true, Bool.not_eq_true', Bool.or_eq_false_iff, decide_eq_false_iff_not] at h
    have := contB_eq (by simpa using e) h.2
    subst this
    have : x = y := by omega
    rw [this]
  | [], _ :: _, e, _ => by cases e
  | _ :: _, [], e, _ => by cases e
/-- What all boxes of a list are. -/
structure CovOk (n : Nat) (refused : List (List Int)) (l : List Bx) : Prop where
  low : ∀ b ∈ l, b.low.length = n
  high : ∀ b ∈ l, b.high.length = n
  free : ∀ b ∈ l, freeR refused b = true
theorem coverL_ok {n : Nat} {vars : List Vr} {refused : List (List Int)} : ∀ {needed : List (List Int)} {l : List Bx}, (∀ v ∈ needed, v.length = n ∧ freeR refused ⟨v, v⟩ = true) → CovOk n refused l → CovOk n refused (coverL (freeR refused) vars needed l)
  | [], l, _, h => h
  | v :: r, l, hn, h => by
    simp only [coverL]
    refine coverL_ok (fun w hw => hn w (by simp [hw])) ?_
    split
    · exact h
    · obtain ⟨h1, h2⟩ := hn v (by simp)
      have hs := growVs_sub (freeR refused) vars 0 ⟨v, v⟩
      refine ⟨fun b hb => ?_, fun b hb => ?_, fun b hb => ?_⟩ <;> rcases List.mem_append.1 hb with hb | hb
      · exact h.low b hb
      · rw [List.mem_singleton.1 hb, ← hs.1]; exact h1
      · exact h.high b hb
      · rw [List.mem_singleton.1 hb, ← hs.2.1]; exact h1
      · exact h.free b hb
      · rw [List.mem_singleton.1 hb]; exact growVs_free h2
theorem coverL_keeps (free : Bx → Bool) (vars : List Vr) : ∀ {needed : List (List Int)} {l : List Bx} {v : List Int}, inBs l v = true → inBs (coverL free vars needed l) v = true
  | [], l, v, h => h
  | w :: r, l, v, h => by
    simp only [coverL]
    refine coverL_keeps free vars ?_
    split
    · exact h
    · rw [inBs_app, h]; rfl
theorem coverL_has (free : Bx → Bool) (vars : List Vr) : ∀ {needed : List (List Int)} {l : List Bx}, ∀ v ∈ needed, inBs (coverL free vars needed l) v = true
  | w :: r, l, v, h => by
    simp only [coverL]
    rcases List.mem_cons.1 h with rfl | h
    · refine coverL_keeps free vars ?_
      split
      · assumption
      · rw [inBs_app, inBs_cons, (growVs_sub free vars 0 ⟨v, v⟩).has (contB_self v)]
        simp
    · exact coverL_has free vars v h
theorem thin_ok {n : Nat} {refused needed : List (List Int)} : ∀ {rest kept : List Bx}, CovOk n refused (kept ++ rest) → CovOk n refused (thin needed kept rest)
  | [], kept, h => by simpa [thin] using h
  | b :: rest, kept, h => by
    simp only [thin]
    split
    · exact thin_ok (kept := kept ++ [b]) (by simpa using h)
    · refine thin_ok ⟨fun c hc => h.low c ?_, fun c hc => h.high c ?_, fun c hc => h.free c ?_⟩ <;>
      · rcases List.mem_append.1 hc with hc | hc <;> simp [hc]
theorem thin_covers {needed : List (List Int)} : ∀ {rest kept : List Bx}, (∀ v ∈ needed, inBs (kept ++ rest) v = true) → ∀ v ∈ needed, inBs (thin needed kept rest) v = true
  | [], kept, h => by simpa [thin] using h
  | b :: rest, kept, h => by
    simp only [thin]
    split
    · exact thin_covers (kept := kept ++ [b]) (by simpa using h)
    · rename_i hn
      refine thin_covers fun v hv => ?_
      have h1 := h v hv
      cases h2 : inBs (kept ++ rest) v with
      | true => rfl
      | false =>
        have h3 : b.has v = true := by
          rw [inBs_app, inBs_cons] at h1
          rw [inBs_app] at h2
          simp only [Bool.or_eq_false_iff] at h2
          simpa [h2.1, h2.2] using h1
        exact absurd (List.any_eq_true.2 ⟨v, hv, by simp [h2, h3]⟩) hn
/-- Each one has an element of its own. -/
def Own1 (needed : List (List Int)) (kept rest : List Bx) : Prop := ∀ k1 b k2, kept = k1 ++ b :: k2 → ∃ v ∈ needed, b.has v = true ∧ inBs (k1 ++ k2 ++ rest) v = false
theorem thin_own {needed : List (List Int)} : ∀ {rest kept : List Bx}, Own1 needed kept rest → Own1 needed (thin needed kept rest) []
  | [], kept, h => by simpa [thin] using h
  | b :: rest, kept, h => by
    simp only [thin]
    split
    · rename_i hy
      refine thin_own fun k1 c k2 e => ?_
      rcases List.append_eq_append_iff.1 e with ⟨a, e1, e2⟩ | ⟨a, e1, e2⟩
      · cases a with
        | nil =>
          simp only [List.nil_append, List.cons.injEq] at e2
          obtain ⟨rfl, rfl⟩ := e2
          obtain ⟨v, hv, h2⟩ := List.any_eq_true.1 hy
          simp only [Bool.and_eq_true, Bool.not_eq_true'] at h2
          refine ⟨v, hv, h2.1, ?_⟩
          rw [e1]
          simpa using h2.2
        | cons x a =>
          simp at e2
      · cases a with
        | nil =>
          simp only [List.nil_append, List.cons.injEq] at e2
          obtain ⟨rfl, rfl⟩ := e2
          obtain ⟨v, hv, h2⟩ := List.any_eq_true.1 hy
          simp only [Bool.and_eq_true, Bool.not_eq_true'] at h2
          refine ⟨v, hv, h2.1, ?_⟩
          simp only [List.append_nil] at e1
          rw [← e1]
          simpa using h2.2
        | cons x a =>
          simp only [List.cons_append, List.cons.injEq] at e2
          obtain ⟨rfl, rfl⟩ := e2
          obtain ⟨v, hv, h2, h3⟩ := h k1 c a e1
          refine ⟨v, hv, h2, ?_⟩
          simp only [inBs_app, inBs_cons, Bool.or_eq_false_iff] at h3 ⊢
          exact ⟨⟨h3.1.1, h3.1.2, h3.2.1, rfl⟩, h3.2.2⟩
    · refine thin_own fun k1 c k2 e => ?_
      obtain ⟨v, hv, h2, h3⟩ := h k1 c k2 e
      refine ⟨v, hv, h2, ?_⟩
      simp only [inBs_app, inBs_cons, Bool.or_eq_false_iff] at h3 ⊢
      exact ⟨⟨h3.1.1, h3.1.2⟩, h3.2.2⟩
end Go.AI


/- Guards of boxes, as plain data: literals, joins, what they evaluate to. -/
namespace Go.AI
set_option maxRecDepth 20000
structure Lit where
  var : Nat
  lo : Int
  hi : Int
  fr : Bool
  to : Bool
def litsV (i : Nat) (v : Vr) (lo hi : Int) : List Lit :=
  if lo = v.low ∧ hi = v.high then [] else if lo = hi then [⟨i, lo, hi, true, true⟩] else
    (if lo ≠ v.low then [⟨i, lo, hi, true, false⟩] else []) ++ (if hi ≠ v.high then [⟨i, lo, hi, false, true⟩] else [])
def litsR : List Vr → Nat → List Int → List Int → List Lit
  | v :: r, i, lo :: ls, hi :: hs => litsV i v lo hi ++ litsR r (i + 1) ls hs
  | _, _, _, _ => []
def Bx.lits (b : Bx) (l : List Vr) : List Lit := litsR l 0 b.low b.high
def varE (i : Nat) : Ex := .mk 1 0 i []
def constE (n : Int) : Ex := .mk 0 n 0 []
def litX (x : Lit) : Ex := if x.fr then (if x.to then .mk 6 0 0 [varE x.var, constE x.lo] else .mk 9 0 0 [constE x.lo, varE x.var]) else .mk 9 0 0 [varE x.var, constE x.hi]
def joinF (op : Int) : Nat → List Ex → Ex
  | 0, _ => zeroE
  | _ + 1, [x] => x
  | n + 1, l => .mk op 0 0 [joinF op n (l.take (l.length / 2)), joinF op n (l.drop (l.length / 2))]
def joinR (op : Int) (l : List Ex) : Ex := joinF op l.length l
def falseE : Ex := .mk 7 0 0 [zeroE, zeroE]
def partsR (l : List Vr) (b : Bx) : List Ex := if (b.lits l).isEmpty then [trueE] else (b.lits l).map litX
def wholeR (l : List Vr) (boxes : List Bx) : Ex := if boxes.isEmpty then falseE else joinR 12 (boxes.map fun b => joinR 11 (partsR l b))
/-- The guard, or the error. -/
def joinedR (l : List Vr) (boxes : List Bx) : Ex × Int :=
  if boxes.isEmpty then (falseE, 0) else if (checkX (wholeR l boxes) l.length).2 ≠ 0 then (zeroE, (checkX (wholeR l boxes) l.length).2) else (wholeR l boxes, 0)

theorem joinF_one (op : Int) (n : Nat) (x : Ex) : joinF op (n + 1) [x] = x := rfl
theorem joinF_two (op : Int) (n : Nat) {l : List Ex} (h : 2 ≤ l.length) : joinF op (n + 1) l = .mk op 0 0 [joinF op n (l.take (l.length / 2)), joinF op n (l.drop (l.length / 2))] := by
  match l, h with
  | x :: y :: r, _ => rfl
/-- It evaluates to a truth value. -/
def evB (vals : List Int) (x : Ex) (b : Bool) : Prop := evalR vals x = (tr (b = true), true)
theorem ev2 {vals : List Int} {op : Int} {x y : Ex} {a b : Int} (h0 : op ≠ 0) (h1 : op ≠ 1) (h13 : op ≠ 13) (hx : evalR vals x = (a, true)) (hy : evalR vals y = (b, true)) : evalR vals (.mk op 0 0 [x, y]) = (ap2 op a b, !largeB (ap2 op a b) 1073741824) := by
  simp [evalR, h0, h1, h13, evalRs, hx, hy, applyR]
theorem ev_and {vals : List Int} {x y : Ex} {a b : Bool} (hx : evB vals x a) (hy : evB vals y b) : evB vals (.mk 11 0 0 [x, y]) (a && b) := by
  unfold evB at *
  rw [ev2 (by decide) (by decide) (by decide) hx hy]
  cases a <;> cases b <;> decide
theorem ev_or {vals : List Int} {x y : Ex} {a b : Bool} (hx : evB vals x a) (hy : evB vals y b) : evB vals (.mk 12 0 0 [x, y]) (a || b) := by
  unfold evB at *
  rw [ev2 (by decide) (by decide) (by decide) hx hy]
  cases a <;> cases b <;> decide
theorem ev_joinF {vals : List Int} {op : Int} {f : Bool → Bool → Bool} {u : Bool} (hf : ∀ {x y : Ex} {a b : Bool}, evB vals x a → evB vals y b → evB vals (.mk op 0 0 [x, y]) (f a b))
    (g : (Ex → Bool) → List Ex → Bool) (g1 : ∀ B x, g B [x] = B x) (g2 : ∀ B l r, g B (l ++ r) = f (g B l) (g B r)) (B : Ex → Bool) : ∀ (n : Nat) (l : List Ex), 1 ≤ l.length → l.length ≤ n → (∀ x ∈ l, evB vals x (B x)) → evB vals (joinF op n l) (g B l)
  | 0, l, h, h1, _ => by omega
  | n + 1, l, h, h1, hb => by
    by_cases h3 : 2 ≤ l.length
    · rw [joinF_two op n h3]
      have e : g B l = f (g B (l.take (l.length / 2))) (g B (l.drop (l.length / 2))) := by rw [← g2, List.take_append_drop]
      rw [e]
      exact hf (ev_joinF (u := u) hf g g1 g2 B n _ (by simp; omega) (by simp; omega) fun x hx => hb x (List.mem_of_mem_take hx)) (ev_joinF (u := u) hf g g1 g2 B n _ (by simp; omega) (by simp; omega) fun x hx => hb x (List.mem_of_mem_drop hx))
    · obtain ⟨x, rfl⟩ := List.length_eq_one_iff.1 (show l.length = 1 by omega)
      rw [g1]
      exact hb x (by simp)
theorem ev_join_and {vals : List Int} (B : Ex → Bool) {l : List Ex} (h : 1 ≤ l.length) (hb : ∀ x ∈ l, evB vals x (B x)) : evB vals (joinR 11 l) (l.all B) :=
  ev_joinF (u := true) ev_and (fun B l => l.all B) (fun B x => by simp) (fun B l r => by simp) B _ l h (Nat.le_refl _) hb
theorem ev_join_or {vals : List Int} (B : Ex → Bool) {l : List Ex} (h : 1 ≤ l.length) (hb : ∀ x ∈ l, evB vals x (B x)) : evB vals (joinR 12 l) (l.any B) :=
  ev_joinF (u := true) ev_or (fun B l => l.any B) (fun B x => by simp) (fun B l r => by simp) B _ l h (Nat.le_refl _) hb
theorem ev_true (vals : List Int) : evB vals trueE true := by
  unfold evB trueE zeroE
  rw [ev2 (a := 0) (b := 0) (by decide) (by decide) (by decide) (by simp [evalR]) (by simp [evalR])]
  decide
theorem ev_false (vals : List Int) : evB vals falseE false := by
  unfold evB falseE zeroE
  rw [ev2 (a := 0) (b := 0) (by decide) (by decide) (by decide) (by simp [evalR]) (by simp [evalR])]
  decide
/-- What a literal says. -/
def litB (vals : List Int) (x : Lit) : Bool := if x.fr then (if x.to then decide (vals.getD x.var 0 = x.lo) else decide (x.lo ≤ vals.getD x.var 0)) else decide (vals.getD x.var 0 ≤ x.hi)
theorem tr_big (p : Prop) [Decidable p] : (!largeB (tr p) 1073741824) = true := by
  unfold tr
  split <;> decide
theorem tr_dec (p : Prop) [Decidable p] : tr p = tr (decide p = true) := by
  unfold tr
  by_cases h : p <;> simp [h]
theorem ev_lit (vals : List Int) (x : Lit) : evB vals (litX x) (litB vals x) := by
  have hv : evalR vals (varE x.var) = (vals.getD x.var 0, true) := by simp [varE, evalR]
  have hc : ∀ n, evalR vals (constE n) = (n, true) := fun n => by simp [constE, evalR]
  unfold evB litX litB
  by_cases h : x.fr = true
  · rw [if_pos h, if_pos h]
    by_cases h2 : x.to = true
    · rw [if_pos h2, if_pos h2, ev2 (by decide) (by decide) (by decide) hv (hc x.lo)]
      have e : ap2 6 (vals.getD x.var 0) x.lo = tr (vals.getD x.var 0 = x.lo) := rfl
      rw [e, tr_big, tr_dec (_ = _)]
    · rw [if_neg h2, if_neg h2, ev2 (by decide) (by decide) (by decide) (hc x.lo) hv]
      have e : ap2 9 x.lo (vals.getD x.var 0) = tr (x.lo ≤ vals.getD x.var 0) := rfl
      rw [e, tr_big, tr_dec (_ ≤ _)]
  · rw [if_neg h, if_neg h, ev2 (by decide) (by decide) (by decide) hv (hc x.hi)]
    have e : ap2 9 (vals.getD x.var 0) x.hi = tr (vals.getD x.var 0 ≤ x.hi) := rfl
    rw [e, tr_big, tr_dec (_ ≤ _)]
/-- Values of variables. -/
def inV : List Vr → List Int → Prop
  | [], [] => True
  | v :: r, x :: xs => (v.low ≤ x ∧ x ≤ v.high) ∧ inV r xs
  | _, _ => False
theorem litsV_sem {vals : List Int} {i : Nat} {v : Vr} {lo hi x : Int} (hx : vals.getD i 0 = x) (h1 : v.low ≤ x) (h2 : x ≤ v.high) : (litsV i v lo hi).all (litB vals) = !(decide (x < lo) || decide (x > hi)) := by
  rw [Bool.eq_iff_iff]
  unfold litsV
  by_cases c1 : lo = v.low ∧ hi = v.high
  · rw [if_pos c1]
    simp
    omega
  rw [if_neg c1]
  by_cases c3 : lo = hi
  · rw [if_pos c3]
    simp only [List.all_cons, List.all_nil, Bool.and_true, litB, hx, if_true]
    simp
    omega
  rw [if_neg c3]
  by_cases c4 : lo = v.low <;> by_cases c5 : hi = v.high <;> simp only [ne_eq, c4, c5, not_true, not_false_iff, if_true, if_false, List.nil_append, List.append_nil, List.cons_append, List.all_cons, List.all_nil, Bool.and_true, litB, hx] <;> simp <;> omega
theorem lits_sem (vals : List Int) : ∀ (l : List Vr) (i : Nat) (ls hs : List Int), ls.length = l.length → hs.length = l.length → inV l (vals.drop i) → (litsR l i ls hs).all (litB vals) = contB (vals.drop i) ls hs
  | [], i, ls, hs, h1, h2, hv => by
    cases hd : vals.drop i with
    | nil => cases ls <;> simp [litsR, contB]
    | cons x xs => rw [hd] at hv; exact hv.elim
  | v :: r, i, [], hs, h1, _, _ => by cases h1
  | v :: r, i, _ :: _, [], _, h2, _ => by cases h2
  | v :: r, i, lo :: ls, hi :: hs, h1, h2, hv => by
    cases hd : vals.drop i with
    | nil => rw [hd] at hv; exact hv.elim
    | cons x xs =>
      rw [hd] at hv
      have hx : vals.getD i 0 = x := by
        have : (vals.drop i)[0]? = some x := by rw [hd]; rfl
        rw [List.getElem?_drop] at this
        have this : vals[i]? = some x := this
        rw [List.getD_eq_getElem?_getD, this]
        rfl
      have hxs : vals.drop (i + 1) = xs := by rw [← List.drop_drop, hd]; rfl
      have ih := lits_sem vals r (i + 1) ls hs (by simpa using h1) (by simpa using h2) (by rw [hxs]; exact hv.2)
      rw [hxs] at ih
      simp only [litsR, List.all_append, contB, ih]
      congr 1
      exact litsV_sem hx hv.1.1 hv.1.2
theorem ev_parts {vals : List Int} {l : List Vr} {b : Bx} (h1 : b.low.length = l.length) (h2 : b.high.length = l.length) (hv : inV l vals) : evB vals (joinR 11 (partsR l b)) (b.has vals) := by
  have hs := lits_sem vals l 0 b.low b.high h1 h2 (by simpa using hv)
  unfold partsR
  by_cases he : (b.lits l).isEmpty = true
  · rw [if_pos he]
    have e : b.lits l = [] := by simpa using he
    unfold Bx.lits at e
    rw [e] at hs
    show evB vals trueE (b.has vals)
    have : b.has vals = true := by unfold Bx.has; simpa using hs.symm
    rw [this]
    exact ev_true vals
  · rw [if_neg he]
    have h := ev_join_and (vals := vals) (l := (b.lits l).map litX) (fun x => (evalR vals x).1 = 1) (by
      cases hl : b.lits l with
      | nil => rw [hl] at he; exact absurd rfl he
      | cons x r => simp) (fun x hx => by
        obtain ⟨y, _, rfl⟩ := List.mem_map.1 hx
        have := ev_lit vals y
        unfold evB at this ⊢
        rw [this]
        cases litB vals y <;> decide)
    have e : ((b.lits l).map litX).all (fun x => (evalR vals x).1 = 1) = b.has vals := by
      unfold Bx.has
      rw [show contB vals b.low b.high = contB (vals.drop 0) b.low b.high from rfl, ← hs, List.all_map]
      unfold Bx.lits
      congr 1
      funext y
      have := ev_lit vals y
      unfold evB at this
      simp only [Function.comp, this]
      cases litB vals y <;> decide
    rw [e] at h
    exact h
theorem ev_whole {vals : List Int} {l : List Vr} {boxes : List Bx} (hb : ∀ b ∈ boxes, b.low.length = l.length ∧ b.high.length = l.length) (hv : inV l vals) : evB vals (wholeR l boxes) (inBs boxes vals) := by
  unfold wholeR
  by_cases he : boxes.isEmpty = true
  · rw [if_pos he]
    have e : boxes = [] := by simpa using he
    subst e
    exact ev_false vals
  · rw [if_neg he]
    have hp : ∀ b ∈ boxes, evB vals (joinR 11 (partsR l b)) (b.has vals) := fun b hm => ev_parts (hb b hm).1 (hb b hm).2 hv
    have h := ev_join_or (vals := vals) (l := boxes.map fun b => joinR 11 (partsR l b)) (fun x => (evalR vals x).1 = 1) (by
      cases boxes with
      | nil => exact absurd rfl he
      | cons x r => simp) (fun x hx => by
        obtain ⟨y, hy, rfl⟩ := List.mem_map.1 hx
        have := hp y hy
        unfold evB at this ⊢
        rw [this]
        cases y.has vals <;> decide)
    have e : (boxes.map fun b => joinR 11 (partsR l b)).any (fun x => (evalR vals x).1 = 1) = inBs boxes vals := by
      unfold inBs
      rw [List.any_map]
      clear h he
      induction boxes with
      | nil => rfl
      | cons y r ih =>
        simp only [List.any_cons]
        rw [ih (fun b hm => hb b (by simp [hm])) (fun b hm => hp b (by simp [hm]))]
        congr 1
        have := hp y (by simp)
        unfold evB at this
        simp only [Function.comp, this]
        cases y.has vals <;> decide
    rw [e] at h
    exact h
end Go.AI
