/- The layer of abstract runs, part 37. -/
import Derived.Test.YtonnakcgopcfnaaDoorPlumZJ
import Derived.KernelRfl
import Derived.Test.YtonnakcgopcfnaaDoorTie
import Derived.Test.YtonnakcgopcfnaaDoorCards
import Derived.ProofKit
import Derived.LaidMore
import Derived.OpenShut
import Derived.Lay
import Derived.SevenTiedAt
import Derived.Stop.Joined
import Derived.Stop.LaidErr
import Derived.Lib.LaidTab
set_option linter.unusedSimpArgs false
set_option linter.unusedVariables false
set_option linter.all false

namespace Go.AI
open Go.Proofs
set_option maxRecDepth 20000
abbrev largeB (a b : Int) : Bool := decide (b < a) || decide (a < -b)
mutual
/-- The value of an expression; false if it overflows. -/
def evalR (vals : List Int) : Ex → Int × Bool
  | .mk op v ix args =>
    if op = 0 then (v, true) else if op = 1 then (vals.getD ix.toNat 0, true) else if op = 13 then evalI vals args else
    match evalRs vals args with
    | none => (0, false)
    | some l => (applyR op l, !largeB (applyR op l) 1073741824)
def evalI (vals : List Int) : List Ex → Int × Bool
  | [c, a, b] => if (evalR vals c).2 = false then (0, false) else if (evalR vals c).1 = 1 then evalR vals a else evalR vals b
  | _ => (0, false)
def evalRs (vals : List Int) : List Ex → Option (List Int)
  | [] => some []
  | e :: r => if (evalR vals e).2 = false then none else (evalRs vals r).map ((evalR vals e).1 :: ·)
end
/-- Values, of types. -/
def Ty2 : List Int → List Int → Prop
  | [], [] => True
  | x :: xs, k :: ks => (-1073741824 ≤ x ∧ x ≤ 1073741824) ∧ (k = 2 → x = 0 ∨ x = 1) ∧ Ty2 xs ks
  | _, _ => False
theorem tr01 (p : Prop) [Decidable p] : tr p = 0 ∨ tr p = 1 := by unfold tr; split <;> simp
theorem largeB_false {a b : Int} (h : (!largeB a b) = true) : -b ≤ a ∧ a ≤ b := by
  have := orF (notT h)
  omega
theorem kind_app {op : Int} {ks l : List Int} (ha : (arity op).2 = true) (h0 : op ≠ 0) (h1 : op ≠ 1) (h13 : op ≠ 13) (hlen : (ks.length : Int) = (arity op).1) (ht : Ty2 l ks) (hk : kindOp op ks = 2) : applyR op l = 0 ∨ applyR op l = 1 := by
  have two : ∀ {p : Nat}, (ks.length : Int) = 2 → ∃ a b k1 k2, l = [a, b] ∧ ks = [k1, k2] := by
    intro _ h
    match ks, l, ht with
    | [], _, _ => simp at h
    | [_], _, _ => simp at h
    | [k1, k2], [a, b], _ => exact ⟨a, b, k1, k2, rfl, rfl⟩
    | _ :: _ :: _ :: _, _, _ => simp at h; omega
  have one : (ks.length : Int) = 1 → ∃ a k1, l = [a] ∧ ks = [k1] := by
    intro h
    match ks, l, ht with
    | [], _, _ => simp at h
    | [k1], [a], _ => exact ⟨a, k1, rfl, rfl⟩
    | _ :: _ :: _, _, _ => simp at h; omega
  rcases arity_cases ha with h | h | h | h | h
  · omega
  · unfold kindOp at hk
    rw [if_neg (by omega), if_pos h] at hk
    split at hk <;> cases hk
  · obtain ⟨a, b, k1, k2, rfl, rfl⟩ := two (p := 0) (by rcases h with rfl | rfl | rfl | rfl <;> exact hlen)
    rcases h with rfl | rfl | rfl | rfl <;> exact tr01 _
  · unfold kindOp at hk
    rw [if_neg (by omega), if_neg (by omega), if_neg (by omega), if_pos h] at hk
    split at hk
    · rename_i hall
      rcases h with rfl | rfl | rfl
      · obtain ⟨a, k1, rfl, rfl⟩ := one hlen
        simp only [List.all_cons, List.all_nil, Bool.and_true, decide_eq_true_eq] at hall
        obtain ⟨-, h2, -⟩ := ht
        rcases h2 hall with rfl | rfl <;> decide
      all_goals
        obtain ⟨a, b, k1, k2, rfl, rfl⟩ := two (p := 0) hlen
        simp only [List.all_cons, List.all_nil, Bool.and_true, Bool.and_eq_true, decide_eq_true_eq] at hall
        obtain ⟨-, h2, -, h3, -⟩ := ht
        rcases h2 hall.1 with rfl | rfl <;> rcases h3 hall.2 with rfl | rfl <;> decide
    · cases hk
  · omega
theorem kindOp_ite {ks : List Int} (h : kindOp 13 ks ≠ 0) : ks.getD 0 0 = 2 ∧ ks.getD 1 0 = ks.getD 2 0 ∧ kindOp 13 ks = ks.getD 1 0 := by
  unfold kindOp at h ⊢
  rw [if_neg (by omega), if_neg (by omega), if_neg (by omega), if_neg (by omega), if_pos rfl] at h ⊢
  split at h
  · rename_i h1
    exact ⟨h1.1, h1.2, by rw [if_pos h1]⟩
  · exact absurd rfl h
theorem kindRs_nz {args : List Ex} {ks : List Int} (h : kindRs args = some ks) : ∀ e ∈ args, kindR e ≠ 0 := by
  induction args generalizing ks with
  | nil => simp
  | cons e r ih =>
    simp only [kindRs] at h
    split at h
    · cases h
    · rename_i h1
      cases hk : kindRs r with
      | none => simp [hk] at h
      | some l =>
        intro x hx
        rcases List.mem_cons.1 hx with rfl | hx
        · exact h1
        · exact ih hk x hx
theorem evalRs_len {vals : List Int} {args : List Ex} {l : List Int} (h : evalRs vals args = some l) : l.length = args.length := by
  induction args generalizing l with
  | nil => simp only [evalRs, Option.some.injEq] at h; subst h; rfl
  | cons e r ih =>
    simp only [evalRs] at h
    split at h
    · cases h
    · cases hk : evalRs vals r with
      | none => simp [hk] at h
      | some l' =>
        simp only [hk, Option.map_some, Option.some.injEq] at h
        subst h
        simp [ih hk]
theorem Ty2.len : ∀ {l ks : List Int}, Ty2 l ks → l.length = ks.length
  | [], [], _ => rfl
  | _ :: xs, _ :: ks, h => by simp [Ty2.len h.2.2]
  | [], _ :: _, h => h.elim
  | _ :: _, [], h => h.elim
section
variable {n : Int} {vals : List Int} (hn : (vals.length : Int) = n) (hv : ∀ x ∈ vals, -65536 ≤ x ∧ x ≤ 65536)
include hn hv
theorem eval_ty : ∀ (N : Nat) (x : Ex), SizeOf.sizeOf x < N → wfE n x → kindR x ≠ 0 → (evalR vals x).2 = true → (-1073741824 ≤ (evalR vals x).1 ∧ (evalR vals x).1 ≤ 1073741824) ∧ (kindR x = 2 → (evalR vals x).1 = 0 ∨ (evalR vals x).1 = 1) := by
  intro N
  induction N with
  | zero => intro x h; omega
  | succ N ihN =>
    intro x hs hwf hk he
    obtain ⟨op, v, ix, args⟩ := x
    simp only [wfE] at hwf
    obtain ⟨hform, hwf⟩ := hwf
    obtain ⟨ha, hb, -, hd⟩ := formHead_zero hform
    have hch : ∀ e ∈ args, kindR e ≠ 0 → (evalR vals e).2 = true → (-1073741824 ≤ (evalR vals e).1 ∧ (evalR vals e).1 ≤ 1073741824) ∧ (kindR e = 2 → (evalR vals e).1 = 0 ∨ (evalR vals e).1 = 1) := by
      intro e hm
      have := List.sizeOf_lt_of_mem hm
      simp only [Ex.mk.sizeOf_spec] at hs
      exact ihN e (by omega) (wfEs_mem hwf e hm)
    simp only [kindR] at hk ⊢
    cases hks : kindRs args with
    | none => rw [hks] at hk; exact absurd rfl hk
    | some ks =>
      rw [hks] at hk
      simp only at hk ⊢
      have hkl := kindRs_len hks
      simp only [evalR] at he ⊢
      by_cases h0 : op = 0
      · subst h0
        simp only [if_pos] at he ⊢
        refine ⟨by omega, fun h => ?_⟩
        simp [kindOp] at h
      rw [if_neg h0] at he ⊢
      by_cases h1 : op = 1
      · subst h1
        simp only [if_pos] at he ⊢
        refine ⟨?_, fun h => by simp [kindOp] at h⟩
        have hix : ix.toNat < vals.length := by omega
        have := hv _ (List.getElem_mem hix)
        rw [List.getD_eq_getElem?_getD, List.getElem?_eq_getElem hix]
        simp only [Option.getD_some]
        omega
      rw [if_neg h1] at he ⊢
      by_cases h13 : op = 13
      · subst h13
        simp only [if_pos] at he ⊢
        have h3 : args.length = 3 := by have : (args.length : Int) = 3 := hb; omega
        obtain ⟨hk0, hk12, hkr⟩ := kindOp_ite hk
        match args, h3 with
        | [c, a, b], _ =>
          have hnz := kindRs_nz hks
          have hkk : ks = [kindR c, kindR a, kindR b] := by
            simp only [kindRs, if_neg (hnz c (by simp)), if_neg (hnz a (by simp)), if_neg (hnz b (by simp)), Option.map_some, Option.some.injEq] at hks
            exact hks.symm
          subst hkk
          simp only [List.getD_cons_zero, List.getD_cons_succ] at hk0 hk12 hkr
          rw [hkr]
          simp only [evalI] at he ⊢
          by_cases hc : (evalR vals c).2 = false
          · rw [if_pos hc] at he; cases he
          rw [if_neg hc] at he ⊢
          split at he
          · rename_i h4
            rw [if_pos h4]
            exact hch a (by simp) (hnz a (by simp)) he
          · rename_i h4
            rw [if_neg h4, hk12]
            exact hch b (by simp) (hnz b (by simp)) he
      rw [if_neg h13] at he ⊢
      cases hl : evalRs vals args with
      | none => rw [hl] at he; cases he
      | some l =>
        rw [hl] at he
        simp only at he ⊢
        have hty : Ty2 l ks := by
          clear hb hform hk hd he hs hkl
          induction args generalizing l ks with
          | nil =>
            simp only [evalRs, Option.some.injEq] at hl
            simp only [kindRs, Option.some.injEq] at hks
            subst hl; subst hks
            trivial
          | cons e r ih =>
            simp only [evalRs] at hl
            simp only [kindRs] at hks
            split at hl
            · cases hl
            rename_i e1
            split at hks
            · cases hks
            rename_i e2
            cases hk1 : kindRs r with
            | none => simp [hk1] at hks
            | some ks' =>
              cases hl1 : evalRs vals r with
              | none => simp [hl1] at hl
              | some l' =>
                simp only [hk1, Option.map_some, Option.some.injEq] at hks
                simp only [hl1, Option.map_some, Option.some.injEq] at hl
                subst hks; subst hl
                have := hch e (by simp) e2 (by simpa using e1)
                exact ⟨this.1, this.2, ih (by simp only [wfEs] at hwf; exact hwf.2) (fun x hx => hch x (by simp [hx])) ks' hk1 l' hl1⟩
        exact ⟨largeB_false he, kind_app ha h0 h1 h13 (by rw [hkl]; exact hb) hty⟩
end
end Go.AI


namespace Go.AI
open Go.Proofs
set_option maxRecDepth 20000
theorem evalRs_take {vals : List Int} {args : List Ex} {i : Nat} {l : List Int} (h : i < args.length) (hl : evalRs vals (args.take i) = some l) : evalRs vals (args.take (i + 1)) = if (evalR vals args[i]).2 = false then none else some (l ++ [(evalR vals args[i]).1]) := by
  induction args generalizing i l with
  | nil => simp at h
  | cons e r ih =>
    cases i with
    | zero =>
      simp only [List.take_zero, evalRs, Option.some.injEq] at hl
      subst hl
      simp [evalRs]
    | succ i =>
      simp only [List.take_succ_cons, evalRs] at hl ⊢
      split at hl
      · cases hl
      · rename_i h1
        rw [if_neg h1]
        cases hk : evalRs vals (r.take i) with
        | none => simp [hk] at hl
        | some l' =>
          simp only [hk, Option.map_some, Option.some.injEq] at hl
          subst hl
          rw [ih (by simpa using h) hk]
          simp only [List.getElem_cons_succ]
          split <;> simp
theorem evalRs_none {vals : List Int} {args : List Ex} {i : Nat} (hl : evalRs vals (args.take i) = none) : evalRs vals args = none := by
  induction args generalizing i with
  | nil => simpa using hl
  | cons e r ih =>
    cases i with
    | zero => simp [evalRs] at hl
    | succ i =>
      simp only [List.take_succ_cons, evalRs] at hl ⊢
      split at hl
      · rename_i h1; rw [if_pos h1]
      · rename_i h1
        rw [if_neg h1]
        cases hk : evalRs vals (r.take i) with
        | none => rw [ih hk]; rfl
        | some l => simp [hk] at hl
theorem app87 (O : List Heap) {op : Int} {l ks : List Int} (ha : (arity op).2 = true) (h0 : op ≠ 0) (h1 : op ≠ 1) (h13 : op ≠ 13) (hlen : (ks.length : Int) = (arity op).1) (ht : Ty2 l ks) (hk : kindOp op ks ≠ 0) : ASpec Tryd.prog 154 [ii op, ints l] O (ii (applyR op l)) [] O := by
  have two : (ks.length : Int) = 2 → ∃ a b k1 k2, l = [a, b] ∧ ks = [k1, k2] := by
    intro h
    match ks, l, ht with
    | [], _, _ => simp at h
    | [_], _, _ => simp at h
    | [k1, k2], [a, b], _ => exact ⟨a, b, k1, k2, rfl, rfl⟩
    | _ :: _ :: _ :: _, _, _ => simp at h; omega
  have one : (ks.length : Int) = 1 → ∃ a k1, l = [a] ∧ ks = [k1] := by
    intro h
    match ks, l, ht with
    | [], _, _ => simp at h
    | [k1], [a], _ => exact ⟨a, k1, rfl, rfl⟩
    | _ :: _ :: _, _, _ => simp at h; omega
  have c2 : (op = 2 ∨ op = 3 ∨ op = 4 ∨ op = 6 ∨ op = 7 ∨ op = 8 ∨ op = 9 ∨ op = 11 ∨ op = 12) → ASpec Tryd.prog 154 [ii op, ints l] O (ii (applyR op l)) [] O := by
    intro h
    have h2 : (arity op).1 = 2 := by rcases h with rfl | rfl | rfl | rfl | rfl | rfl | rfl | rfl | rfl <;> rfl
    obtain ⟨a, b, k1, k2, rfl, rfl⟩ := two (by rw [hlen, h2])
    obtain ⟨a1, a2, b1, b2, -⟩ := ht
    refine apply2 O op a b h a1 b1 fun hop => ?_
    unfold kindOp at hk
    rw [if_neg (by omega), if_neg (by omega), if_neg (by omega), if_pos (by omega)] at hk
    split at hk
    · rename_i hall
      simp only [List.all_cons, List.all_nil, Bool.and_true, Bool.and_eq_true, decide_eq_true_eq] at hall
      exact ⟨a2 hall.1, b2 hall.2⟩
    · exact absurd rfl hk
  have c1 : (op = 5 ∨ op = 10) → ASpec Tryd.prog 154 [ii op, ints l] O (ii (applyR op l)) [] O := by
    intro h
    have h2 : (arity op).1 = 1 := by rcases h with rfl | rfl <;> rfl
    obtain ⟨a, k1, rfl, rfl⟩ := one (by rw [hlen, h2])
    exact apply1 O op a h ht.1
  rcases arity_cases ha with h | h | h | h | h
  · omega
  · rcases h with h | h | h | h
    · exact c2 (by omega)
    · exact c2 (by omega)
    · exact c2 (by omega)
    · exact c1 (by omega)
  · exact c2 (by omega)
  · rcases h with h | h | h
    · exact c1 (by omega)
    · exact c2 (by omega)
    · exact c2 (by omega)
  · omega
theorem ty2_of {n : Int} {vals : List Int} (hn : (vals.length : Int) = n) (hv : ∀ x ∈ vals, -65536 ≤ x ∧ x ≤ 65536) : ∀ (args : List Ex) (l ks : List Int), wfEs n args → evalRs vals args = some l → kindRs args = some ks → Ty2 l ks
  | [], l, ks, _, hl, hks => by
    simp only [evalRs, Option.some.injEq] at hl
    simp only [kindRs, Option.some.injEq] at hks
    subst hl; subst hks
    trivial
  | e :: r, l, ks, hwf, hl, hks => by
    simp only [evalRs] at hl
    simp only [kindRs] at hks
    split at hl
    · cases hl
    rename_i e1
    split at hks
    · cases hks
    rename_i e2
    cases hk1 : kindRs r with
    | none => simp [hk1] at hks
    | some ks' =>
      cases hl1 : evalRs vals r with
      | none => simp [hl1] at hl
      | some l' =>
        simp only [hk1, Option.map_some, Option.some.injEq] at hks
        simp only [hl1, Option.map_some, Option.some.injEq] at hl
        subst hks; subst hl
        simp only [wfEs] at hwf
        have := eval_ty hn hv _ e (Nat.lt_succ_self _) hwf.1 e2 (by simpa using e1)
        exact ⟨this.1, this.2, ty2_of hn hv r l' ks' hwf.2 hl1 hk1⟩
theorem evaluate71 {n : Int} {vals : List Int} (hn : (vals.length : Int) = n) (hv : ∀ x ∈ vals, -65536 ≤ x ∧ x ≤ 65536) : ∀ (N : Nat) (x : Ex), SizeOf.sizeOf x < N → wfE n x → kindR x ≠ 0 → ∀ O,
    ASpec Tryd.prog 98 [exD x, ints vals] O (.tup [ii (evalR vals x).1, bb (evalR vals x).2]) [] O := by
  intro N
  induction N with
  | zero => intro x h; omega
  | succ N ihN =>
    intro x hs hwf hk O
    have hty := eval_ty hn hv _ x (Nat.lt_succ_self _) hwf hk
    obtain ⟨op, v, ix, args⟩ := x
    simp only [wfE] at hwf
    obtain ⟨hform, hwf⟩ := hwf
    obtain ⟨ha, hb, -, hd⟩ := formHead_zero hform
    have hch : ∀ e ∈ args, kindR e ≠ 0 → ∀ O, ASpec Tryd.prog 98 [exD e, ints vals] O (.tup [ii (evalR vals e).1, bb (evalR vals e).2]) [] O := by
      intro e hm hke O
      have := List.sizeOf_lt_of_mem hm
      simp only [Ex.mk.sizeOf_spec] at hs
      exact ihN e (by omega) (wfEs_mem hwf e hm) hke O
    have hlen3 : args.length ≤ 3 := by have := arity_le op; omega
    have hlen : args.length ≤ max63 := by simp only [max63]; omega
    clear ihN hs hform
    simp only [kindR] at hk
    cases hks : kindRs args with
    | none => rw [hks] at hk; exact absurd rfl hk
    | some ks =>
      rw [hks] at hk
      simp only at hk
      have hkl := kindRs_len hks
      have hnz := kindRs_nz hks
      simp only [evalR] at *
      refine aspec_stop [20] Tk Tryd.func98 rfl Tryd.call98 Tryd.ntmps98 (Nat.le_of_ble_eq_true rfl) fun E => ?_
      refine g_run Tk Tryd.func98 ?_
      first | refine g_cnd Tk Tryd.func98 rfl (fun h0 => ?_) (fun h0 => ?_) | refine g_know Tk Tryd.func98 rfl (fun h0 => ?_) (fun h0 => ?_) | refine s_know Tk (fun h0 => ?_) (fun h0 => ?_)
      · have h0 := beqT h0
        subst h0
        rw [if_pos rfl]
        refine g_ret Tk (r := .tup [ii v, bb true]) rfl rfl rfl trivial rfl rfl ?_
        rfl
      have h0 := beqF h0
      rw [if_neg h0] at *
      first | refine g_cnd Tk Tryd.func98 rfl (fun h1 => ?_) (fun h1 => ?_) | refine g_know Tk Tryd.func98 rfl (fun h1 => ?_) (fun h1 => ?_) | refine s_know Tk (fun h1 => ?_) (fun h1 => ?_)
      · have h1 := beqT h1
        subst h1
        rw [if_pos rfl]
        have hix : ix.toNat < vals.length := by omega
        first | refine g_need Tk Tryd.func98 (by omega) ?_ | refine s_need Tk (by omega) ?_
        first | refine g_elem Tk Tryd.func98 (get_mapI (f := fun x => [vi x]) (i := ix.toNat) (by omega) hix) ?_ | refine s_elem Tk (get_mapI (f := fun x => [vi x]) (i := ix.toNat) (by omega) hix) ?_
        refine g_ret Tk (r := .tup [ii _, bb true]) rfl rfl rfl trivial rfl rfl ?_
        rw [List.getD_eq_getElem?_getD, List.getElem?_eq_getElem hix]
        rfl
      have h1 := beqF h1
      rw [if_neg h1] at *
      first | refine g_cnd Tk Tryd.func98 rfl (fun h13 => ?_) (fun h13 => ?_) | refine g_know Tk Tryd.func98 rfl (fun h13 => ?_) (fun h13 => ?_) | refine s_know Tk (fun h13 => ?_) (fun h13 => ?_)
      · have h13 := beqT h13
        subst h13
        rw [if_pos rfl] at *
        have h3 : args.length = 3 := by have : (args.length : Int) = 3 := hb; omega
        obtain ⟨hk0, hk12, hkr⟩ := kindOp_ite hk
        match args, h3 with
        | [c, a, b], _ =>
          have hkk : ks = [kindR c, kindR a, kindR b] := by
            simp only [kindRs, if_neg (hnz c (by simp)), if_neg (hnz a (by simp)), if_neg (hnz b (by simp)), Option.map_some, Option.some.injEq] at hks
            exact hks.symm
          subst hkk
          simp only [List.getD_cons_zero, List.getD_cons_succ] at hk0 hk12 hkr
          simp only [evalI]
          have hc1 := eval_ty hn hv _ c (Nat.lt_succ_self _) (by simp only [wfEs] at hwf; exact hwf.1) (hnz c (by simp))
          have sc := hch c (by simp) (hnz c (by simp))
          have sa := hch a (by simp) (hnz a (by simp))
          have sb := hch b (by simp) (hnz b (by simp))
          clear hch hty hwf hnz
          obtain ⟨co, cv, ci, ca⟩ := c
          obtain ⟨ao, av, ai, aa⟩ := a
          obtain ⟨bo, bv, bi, ba⟩ := b
          generalize evalR vals (.mk co cv ci ca) = rc at *
          obtain ⟨r1, r2⟩ := rc
          first | refine g_need Tk Tryd.func98 (by simp) ?_ | refine s_need Tk (by simp) ?_
          first | refine g_elem Tk Tryd.func98 (rfl) ?_ | refine s_elem Tk (rfl) ?_
          first | refine g_call Tk Tryd.func98 (sc _) rfl rfl rfl rfl rfl ?_ | refine s_callq Tk (fun _ => sc _) rfl rfl rfl ?_
          first | refine g_cnd Tk Tryd.func98 rfl (fun h2 => ?_) (fun h2 => ?_) | refine g_know Tk Tryd.func98 rfl (fun h2 => ?_) (fun h2 => ?_) | refine s_know Tk (fun h2 => ?_) (fun h2 => ?_)
          · have h2 : r2 = false := notT h2
            subst h2
            rw [if_pos rfl]
            refine g_ret Tk (r := .tup [ii 0, bb false]) rfl rfl rfl trivial rfl rfl ?_
            rfl
          · have h2 : r2 = true := notF h2
            subst h2
            rw [if_neg (by simp)]
            rcases (hc1 rfl).2 hk0 with h4 | h4
            · simp only at h4
              subst h4
              rw [if_neg (by simp)]
              first | refine g_need Tk Tryd.func98 (by exact ⟨by decide, by simp [w64]⟩) ?_ | refine s_need Tk (by exact ⟨by decide, by simp [w64]⟩) ?_
              first | refine g_elem Tk Tryd.func98 (rfl) ?_ | refine s_elem Tk (rfl) ?_
              first | refine g_call Tk Tryd.func98 (sb _) rfl rfl rfl rfl rfl ?_ | refine s_callq Tk (fun _ => sb _) rfl rfl rfl ?_
              refine g_ret Tk (r := .tup [ii _, bb _]) rfl rfl rfl trivial rfl rfl ?_
              rfl
            · simp only at h4
              subst h4
              rw [if_pos rfl]
              first | refine g_need Tk Tryd.func98 (by exact ⟨by decide, by simp [w64]⟩) ?_ | refine s_need Tk (by exact ⟨by decide, by simp [w64]⟩) ?_
              first | refine g_elem Tk Tryd.func98 (rfl) ?_ | refine s_elem Tk (rfl) ?_
              first | refine g_call Tk Tryd.func98 (sa _) rfl rfl rfl rfl rfl ?_ | refine s_callq Tk (fun _ => sa _) rfl rfl rfl ?_
              refine g_ret Tk (r := .tup [ii _, bb _]) rfl rfl rfl trivial rfl rfl ?_
              rfl
      have h13 := beqF h13
      rw [if_neg h13] at *
      apply join_q (P := fun l => evalRs vals args = some l) (s6 := fun l => { σ := [(2, .own 0 2 0 0), (8, ints l)], S := [(2, .box [ii op, ii v, ii ix, exs args])] :: O, n := 78 })
      · intro J
        refine g_loop ?_
        refine rch_wk (wk_nil 8 68 3 1 rfl rfl rfl) ?_
        refine rch_loop2 (fun x : Nat × List Int => [(1, ints vals), (2, .own 0 2 0 0), (8, .osl 0 68), (51, exs args), (52, ii args.length), (53, ii x.1)]) (fun x => [(68, oints x.2), (2, .box [ii op, ii v, ii ix, exs args])]) (fun _ => O) 78
          (fun x => x.1 ≤ args.length ∧ evalRs vals (args.take x.1) = some x.2) (fun x => args.length - x.1) (0, []) ⟨Nat.zero_le _, rfl⟩ ⟨rfl, rfl, rfl, rfl, rfl, rfl, trivial⟩ rfl ⟨rfl, rfl, trivial⟩ rfl rfl ?_
        rintro ⟨i, l⟩ ⟨hi, hno⟩ ih
        simp only at hi hno
        refine g_run Tk Tryd.func98 ?_
        first | refine g_cnd Tk Tryd.func98 rfl (fun h5 => ?_) (fun h5 => ?_) | refine g_know Tk Tryd.func98 rfl (fun h5 => ?_) (fun h5 => ?_) | refine s_know Tk (fun h5 => ?_) (fun h5 => ?_)
        · have h5 : i < args.length := by simpa using h5
          have hm := List.getElem_mem h5
          have hg := exIs_get h5
          have ht := evalRs_take h5 hno
          have hll := evalRs_len hno
          simp only [List.length_take, Nat.min_eq_left hi] at hll
          generalize args[i] = e at hm hg ht
          have hce := fun O => hch e hm (hnz e hm) O
          obtain ⟨eo, ev, ei, ea⟩ := e
          simp only [exI] at hg
          first | refine g_need Tk Tryd.func98 (by omega) ?_ | refine s_need Tk (by omega) ?_
          first | refine g_elem Tk Tryd.func98 (hg) ?_ | refine s_elem Tk (hg) ?_
          first | refine g_call Tk Tryd.func98 (hce _) rfl rfl rfl rfl rfl ?_ | refine s_callq Tk (fun _ => hce _) rfl rfl rfl ?_
          generalize evalR vals (.mk eo ev ei ea) = k at ht
          first | refine g_cnd Tk Tryd.func98 rfl (fun h6 => ?_) (fun h6 => ?_) | refine g_know Tk Tryd.func98 rfl (fun h6 => ?_) (fun h6 => ?_) | refine s_know Tk (fun h6 => ?_) (fun h6 => ?_)
          · have h6 := notT h6
            rw [if_pos h6] at ht
            rw [evalRs_none ht]
            refine g_ret Tk (r := .tup [ii 0, bb false]) rfl rfl rfl trivial rfl rfl ?_
            rfl
          · have h6 := notF h6
            rw [if_neg (by rw [h6]; simp)] at ht
            first | refine g_need Tk Tryd.func98 (by exact ⟨by show (l.length + 1) * 8 ≤ 140737488355328; omega, by show l.length + 1 ≤ 9223372036854775807; omega⟩) ?_ | refine s_need Tk (by exact ⟨by show (l.length + 1) * 8 ≤ 140737488355328; omega, by show l.length + 1 ≤ 9223372036854775807; omega⟩) ?_
            refine g_loop ?_
            refine ih (i + 1, l ++ [k.1]) _ _ ⟨h5, ht⟩ (by simp only; omega) ⟨rfl, rfl, rfl, rfl, rfl, congrArg ii (wsucc h5 hlen), trivial⟩ rfl ⟨congrArg some (oints_app l k.1), rfl, trivial⟩ rfl rfl
        · have h5 : args.length ≤ i := by simpa using h5
          rw [List.take_of_length_le h5] at hno
          refine g_stop ?_
          refine rch_wk (wk_freeze 68 rfl rfl) ?_
          refine rch_cut2 (l := [(2, .own 0 2 0 0), (8, ints l)]) (Hv := [(2, .box [ii op, ii v, ii ix, exs args])]) ⟨rfl, rfl, trivial⟩ rfl ⟨rfl, trivial⟩ rfl rfl (J l hno)
      · intro l hl
        have ht := ty2_of hn hv args l ks hwf hl hks
        rw [hl]
        refine g_run Tk Tryd.func98 ?_
        refine g_go Tk Tryd.func98 ?_
        first | refine g_call Tk Tryd.func98 (app87 _ ha h0 h1 h13 (by rw [hkl]; exact hb) ht hk) rfl rfl rfl rfl rfl ?_ | refine s_callq Tk (fun _ => app87 _ ha h0 h1 h13 (by rw [hkl]; exact hb) ht hk) rfl rfl rfl ?_
        first | refine g_call Tk Tryd.func98 (large70k _ (applyR op l) 1073741824 (by decide) (by decide)) rfl rfl rfl rfl rfl ?_ | refine s_callq Tk (fun _ => large70k _ (applyR op l) 1073741824 (by decide) (by decide)) rfl rfl rfl ?_
        refine g_ret Tk (r := .tup [ii _, bb _]) rfl rfl rfl trivial rfl rfl ?_
        rfl
/-- Evaluate: the value, or the error. -/
def evalX (x : Ex) (vals : List Int) : Int × Int :=
  if (checkX x vals.length).2 ≠ 0 then (0, (checkX x vals.length).2) else
  if vals.any (fun n => largeB n 65536) then (0, 2) else
  if (evalR vals x).2 = false then (0, 17) else ((evalR vals x).1, 0)
theorem big69' (O : List Heap) (a : Int) : ASpec Tryd.prog 96 [ii a] O (bb (largeB a 65536)) [] O := by
  refine aspec_intro Tk Tryd.func96 rfl Tryd.call96 Tryd.ntmps96 (Nat.le_of_ble_eq_true rfl) fun E => ?_
  refine g_run Tk Tryd.func96 ?_
  first | refine g_call Tk Tryd.func96 (large70k _ a 65536 (by decide) (by decide)) rfl rfl rfl rfl rfl ?_ | refine s_callq Tk (fun _ => large70k _ a 65536 (by decide) (by decide)) rfl rfl rfl ?_
  refine g_ret Tk (r := bb _) rfl rfl rfl trivial rfl rfl ?_
  rfl
theorem indexFunc86p (O : List Heap) (l : List Int) (f : Nat) (p : Int → Bool) (hl : l.length ≤ max63) (hp : ∀ x ∈ l, ∀ O, ASpec Tryd.prog f [ii x] O (bb (p x)) [] O) :
    ASpec Tryd.prog 153 [ints l, .fn (.func f) [] []] O (ii (findIx p l 0)) [] O := by
  refine aspec_intro Tk Tryd.func153 rfl Tryd.call153 Tryd.ntmps153 (Nat.le_of_ble_eq_true rfl) fun E => ?_
  refine g_run Tk Tryd.func153 ?_
  refine g_loop ?_
  refine rch_loop_ind (fun i : Nat => [(0, ints l), (1, .fn (.func f) [] []), (6, ints l), (7, ii l.length), (8, ii i)]) (fun _ => [] :: O) 19 (fun i => i ≤ l.length ∧ findIx p l 0 = findIx p (l.drop i) i) (fun i => l.length - i) 0 ⟨Nat.zero_le _, rfl⟩ ⟨rfl, rfl, rfl, rfl, rfl, trivial⟩ rfl rfl ?_
  intro i ⟨hi, hno⟩ ih
  rw [hno]
  rw [hno] at ih
  refine g_run Tk Tryd.func153 ?_
  first | refine g_cnd Tk Tryd.func153 rfl (fun h1 => ?_) (fun h1 => ?_) | refine g_know Tk Tryd.func153 rfl (fun h1 => ?_) (fun h1 => ?_) | refine s_know Tk (fun h1 => ?_) (fun h1 => ?_)
  · have h1 : i < l.length := by simpa using h1
    have hd : l.drop i = l[i] :: l.drop (i + 1) := (List.drop_eq_getElem_cons h1)
    first | refine g_need Tk Tryd.func153 (by omega) ?_ | refine s_need Tk (by omega) ?_
    first | refine g_elem Tk Tryd.func153 (get_mapZ h1) ?_ | refine s_elem Tk (get_mapZ h1) ?_
    first | refine g_call Tk Tryd.func153 (hp l[i] (List.getElem_mem h1) _) rfl rfl rfl rfl rfl ?_ | refine s_callq Tk (fun _ => hp l[i] (List.getElem_mem h1) _) rfl rfl rfl ?_
    first | refine g_cnd Tk Tryd.func153 rfl (fun h2 => ?_) (fun h2 => ?_) | refine g_know Tk Tryd.func153 rfl (fun h2 => ?_) (fun h2 => ?_) | refine s_know Tk (fun h2 => ?_) (fun h2 => ?_)
    · refine g_ret Tk (r := ii _) rfl rfl rfl trivial rfl rfl ?_
      rw [hd]
      simp only [findIx]
      rw [if_pos h2]
    · refine g_loop ?_
      refine ih (i + 1) _ ⟨h1, ?_⟩ (by omega) ⟨rfl, rfl, rfl, rfl, congrArg ii (wsucc h1 hl), trivial⟩ rfl rfl
      rw [hd]
      simp only [findIx]
      rw [if_neg (by rw [h2]; simp)]
  · have h1 : l.length ≤ i := by simpa using h1
    refine g_ret Tk (r := ii _) rfl rfl rfl trivial rfl rfl ?_
    rw [List.drop_eq_nil_of_le h1]
    rfl
theorem containsFunc68p (O : List Heap) (l : List Int) (f : Nat) (p : Int → Bool) (hl : l.length ≤ max63) (hp : ∀ x ∈ l, ∀ O, ASpec Tryd.prog f [ii x] O (bb (p x)) [] O) :
    ASpec Tryd.prog 95 [ints l, .fn (.func f) [] []] O (bb (l.any p)) [] O := by
  refine aspec_intro Tk Tryd.func95 rfl Tryd.call95 Tryd.ntmps95 (Nat.le_of_ble_eq_true rfl) fun E => ?_
  refine g_run Tk Tryd.func95 ?_
  first | refine g_call Tk Tryd.func95 (indexFunc86p _ l f p hl hp) rfl rfl rfl rfl rfl ?_ | refine s_callq Tk (fun _ => indexFunc86p _ l f p hl hp) rfl rfl rfl ?_
  refine g_ret Tk (r := bb _) rfl rfl rfl trivial rfl rfl ?_
  exact congrArg bb (findIx_any p l 0)
theorem checkX_ok {x : Ex} {n : Int} (h : (checkX x n).2 = 0) : (formR x n 1 0).1 = 0 ∧ kindR x ≠ 0 ∧ 0 ≤ n ∧ n ≤ 16 ∧ (checkX x n).1 = kindR x := by
  unfold checkX at h ⊢
  by_cases h1 : n < 0 ∨ n > 16
  · rw [if_pos h1] at h; cases h
  rw [if_neg h1] at h ⊢
  by_cases h2 : (formR x n 1 0).1 ≠ 0
  · rw [if_pos h2] at h; exact absurd h h2
  rw [if_neg h2] at h ⊢
  by_cases h3 : kindR x = 0
  · rw [if_pos h3] at h; cases h
  rw [if_neg h3]
  exact ⟨by simpa using h2, h3, by omega, by omega, rfl⟩
theorem any_large {vals : List Int} (h : vals.any (fun n => largeB n 65536) = false) : ∀ x ∈ vals, -65536 ≤ x ∧ x ≤ 65536 := by
  intro x hx
  rw [List.any_eq_false] at h
  have := h x hx
  simp [largeB] at this
  omega
theorem evaluate51 (O : List Heap) (x : Ex) (vals : List Int) (hok : exOk x) (hl : vals.length ≤ max63) : ASpec Tryd.prog 43 [exD x, ints vals] O (.tup [ii (evalX x vals).1, ii (evalX x vals).2]) [] O := by
  have hc := fun O => check67 O x vals.length hok
  have hco := @checkX_ok x vals.length
  have hwf := formR_wf x vals.length 1 0
  have hev := fun hv hw hk O => evaluate71 (n := vals.length) (vals := vals) rfl hv _ x (Nat.lt_succ_self _) hw hk O
  unfold evalX
  obtain ⟨op, v, ix, args⟩ := x
  generalize checkX (.mk op v ix args) vals.length = R at *
  refine aspec_intro Tk Tryd.func43 rfl Tryd.call43 Tryd.ntmps43 (Nat.le_of_ble_eq_true rfl) fun E => ?_
  refine g_run Tk Tryd.func43 ?_
  first | refine g_call Tk Tryd.func43 (hc _) rfl rfl rfl rfl rfl ?_ | refine s_callq Tk (fun _ => hc _) rfl rfl rfl ?_
  first | refine g_cnd Tk Tryd.func43 rfl (fun h1 => ?_) (fun h1 => ?_) | refine g_know Tk Tryd.func43 rfl (fun h1 => ?_) (fun h1 => ?_) | refine s_know Tk (fun h1 => ?_) (fun h1 => ?_)
  · have h1 := bneT h1
    rw [if_pos h1]
    refine g_ret Tk (r := .tup [ii 0, ii _]) rfl rfl rfl trivial rfl rfl ?_
    rfl
  · have h1 := bneF h1
    obtain ⟨c1, c2, -, -, -⟩ := hco h1
    rw [if_neg (by simpa using h1)]
    first | refine g_call Tk Tryd.func43 (containsFunc68p _ vals 96 (fun n => largeB n 65536) hl (fun x _ O => big69' O x)) rfl rfl rfl rfl rfl ?_ | refine s_callq Tk (fun _ => containsFunc68p _ vals 96 (fun n => largeB n 65536) hl (fun x _ O => big69' O x)) rfl rfl rfl ?_
    first | refine g_cnd Tk Tryd.func43 rfl (fun h2 => ?_) (fun h2 => ?_) | refine g_know Tk Tryd.func43 rfl (fun h2 => ?_) (fun h2 => ?_) | refine s_know Tk (fun h2 => ?_) (fun h2 => ?_)
    · rw [if_pos h2]
      refine g_ret Tk (r := .tup [ii 0, ii 2]) rfl rfl rfl trivial rfl rfl ?_
      rfl
    · rw [if_neg (by rw [h2]; simp)]
      first | refine g_call Tk Tryd.func43 (hev (any_large h2) (hwf c1) c2 _) rfl rfl rfl rfl rfl ?_ | refine s_callq Tk (fun _ => hev (any_large h2) (hwf c1) c2 _) rfl rfl rfl ?_
      first | refine g_cnd Tk Tryd.func43 rfl (fun h3 => ?_) (fun h3 => ?_) | refine g_know Tk Tryd.func43 rfl (fun h3 => ?_) (fun h3 => ?_) | refine s_know Tk (fun h3 => ?_) (fun h3 => ?_)
      · have h3 := notT h3
        rw [if_pos h3]
        refine g_ret Tk (r := .tup [ii 0, ii 17]) rfl rfl rfl trivial rfl rfl ?_
        rfl
      · have h3 := notF h3
        rw [if_neg (by rw [h3]; simp)]
        refine g_ret Tk (r := .tup [ii _, ii 0]) rfl rfl rfl trivial rfl rfl ?_
        rfl
end Go.AI


namespace Go.AI
open Go.Proofs
set_option maxRecDepth 20000
def Ex.op : Ex → Int | .mk o _ _ _ => o
def Ex.vl : Ex → Int | .mk _ v _ _ => v
def Ex.ix : Ex → Int | .mk _ _ i _ => i
def Ex.args : Ex → List Ex | .mk _ _ _ a => a
abbrev exA (x : Ex) : D := .agg [ii x.op, ii x.vl, ii x.ix, exs x.args]
theorem exD_eq (x : Ex) : exD x = exA x := by cases x; rfl
theorem exI_eq (x : Ex) : exI x = [vi x.op, vi x.vl, vi x.ix, .sl 4 x.args.length (exIs x.args)] := by cases x; simp [exI, Ex.op, Ex.vl, Ex.ix, Ex.args]
/-- An assignment. -/
structure Upd where
  v : Int
  x : Ex
abbrev updI (u : Upd) : List I := [vi u.v, vi u.x.op, vi u.x.vl, vi u.x.ix, .sl 4 u.x.args.length (exIs u.x.args)]
abbrev upds (l : List Upd) : D := .i (.sl 5 l.length (l.map updI))
/-- A move. -/
structure Mv where
  frm : Int
  ev : Int
  to : Int
  g : Ex
  us : List Upd
/-- An extended automaton. -/
structure Ext where
  alpha : List Int
  locs : Int
  init : Int
  marked : List Int
  vars : List Vr
  moves : List Mv
structure Sta where
  loc : Int
  vals : List Int
def mvOk (x : Mv) : Prop := exOk x.g ∧ x.us.length ≤ max63 ∧ ∀ u ∈ x.us, exOk u.x
structure extOk (m : Ext) : Prop where
  al : m.alpha.length ≤ max63
  ma : m.marked.length ≤ max63
  va : m.vars.length ≤ max63
  na : ∀ v ∈ m.vars, v.name.size ≤ max63
  mo : m.moves.length ≤ max63
  mv : ∀ x ∈ m.moves, mvOk x
theorem check67A (O : List Heap) (x : Ex) (n : Int) (hok : exOk x) : ASpec Tryd.prog 26 [exA x, ii n] O (.tup [ii (checkX x n).1, ii (checkX x n).2]) [] O := by rw [← exD_eq]; exact check67 O x n hok
theorem evaluate51A (O : List Heap) (x : Ex) (vals : List Int) (hok : exOk x) (hl : vals.length ≤ max63) : ASpec Tryd.prog 43 [exA x, ints vals] O (.tup [ii (evalX x vals).1, ii (evalX x vals).2]) [] O := by rw [← exD_eq]; exact evaluate51 O x vals hok hl
/-- The first error of a list of assignments behind one. -/
def updErr (n : Int) : Option Int → List Upd → Int
  | _, [] => 0
  | prev, u :: r => if u.v < 0 ∨ u.v ≥ n then 2 else if prev.any (u.v ≤ ·) then 5 else if typedX u.x n 1 ≠ 0 then typedX u.x n 1 else updErr n (some u.v) r
def prevL {α : Type} (l : List α) (i : Nat) : Option α := if i = 0 then none else l[i - 1]?
theorem wpred {i n : Nat} (h0 : 0 < i) (h : i < n) (hn : n ≤ max63) : IntKind.i64.wrap ((i : Int) - 1) = ((i - 1 : Nat) : Int) := by
  simp only [max63] at hn
  rw [w64 (by omega) (by omega)]
  omega
theorem prevL_pos {α : Type} {l : List α} {i : Nat} (h0 : 0 < i) (h : i < l.length) : prevL l i = some (l[i - 1]'(by omega)) := by
  unfold prevL
  rw [if_neg (by omega), List.getElem?_eq_getElem]
end Go.AI


namespace Go.AI
open Go.Proofs
set_option maxRecDepth 20000
def varsErr (l : List Vr) : Int := if l.length > 16 then 3 else checkVrs l l 0
theorem checkVars56' (O : List Heap) (l : List Vr) (hl : l.length ≤ max63) (hn : ∀ v ∈ l, v.name.size ≤ max63) : ASpec Tryd.prog 83 [vrs l] O (ii (varsErr l)) [] O := checkVars56 O l hl hn
end Go.AI


namespace Go.AI
open Go.Proofs
set_option maxRecDepth 20000
end Go.AI


namespace Go.AI
open Go.Proofs
set_option maxRecDepth 20000
/-- What a right move is. -/
structure mvRight (m : Ext) (x : Mv) : Prop where
  frm : 0 ≤ x.frm ∧ x.frm < m.locs
  to : 0 ≤ x.to ∧ x.to < m.locs
  ev : x.ev ∈ m.alpha
  g : typedX x.g m.vars.length 2 = 0
  us : updErr m.vars.length none x.us = 0
/-- What a right automaton is. -/
structure extRight (m : Ext) : Prop where
  alpha : checkSet 32 m.alpha none = 0
  locs : 1 ≤ m.locs ∧ m.locs ≤ 64
  init : 0 ≤ m.init ∧ m.init < m.locs
  marked : checkSet m.locs m.marked none = 0
  vars : varsErr m.vars = 0
  len : m.moves.length ≤ 256
  mv : ∀ x ∈ m.moves, mvRight m x
theorem vars_len {l : List Vr} (h : varsErr l = 0) : l.length ≤ 16 := by
  unfold varsErr at h
  by_cases h1 : l.length > 16
  · rw [if_pos h1] at h; cases h
  · omega
end Go.AI


namespace Go.AI
open Go.Proofs
set_option maxRecDepth 20000
/-- The text of a number. -/
def itoaB (n : Int) : ByteArray := ⟨(Lib.itoa n).toArray⟩
/-- The table that the library keeps. -/
def ptab (ty : TypeId) (fr : Nat × Nat) : Obj := .cells (Lib.pow10Tab.map fun z => Value.int .u64 z).toArray ty fr
theorem tabIs_of {name : String} {g : Nat} {ty : TypeId} {fr : Nat × Nat} {w : World} (hg : Tryd.prog.globalNamed name = some g) (h : w.heap[g]? = some (ptab ty fr)) : Lib.TabIs Tryd.prog w name .u64 Lib.pow10Tab := by
  simp only [Lib.TabIs, World.var?, hg, Option.bind_some, h, ptab]
/-- Which block it is. -/
def IsTab (g : Nat) : Prop := ∀ ty fr w, w.heap[g]? = some (ptab ty fr) → Lib.TabIs Tryd.prog w "internal/strconv.uint64pow10" .u64 Lib.pow10Tab
theorem itoa79 {g : Nat} (hg : IsTab g) {ty : TypeId} {fr : Nat × Nat} (O : List Heap) (n : Int) (h0 : -9223372036854775808 ≤ n) (h1 : n ≤ 9223372036854775807) : ASpecT g (ptab ty fr) Tryd.prog 149 [ii n] O (.i (.v (.string (itoaB n)))) [] O := by
  intro E K ρ w vs hw htab hrep
  obtain rfl : vs = [.int .i64 n] := by
    cases hrep with
    | cons r rs => cases rs; rw [inv_v r]
  refine .inl ⟨Tryd.call149 _ _, ?_⟩
  refine (Tryd.strconv_Itoa n h0 h1 w (hg ty fr w htab.1)).mono ?_
  rintro e w' ⟨rfl, k, os, rfl⟩
  obtain ⟨ρ1, hρ1, hI⟩ := hinv_enter hw
  obtain ⟨hI2, hst⟩ := HInv.grow (S := [] :: O) rfl hI (fun _ _ _ e => e) (fun _ h => by simp [look] at h) (grow_more hI k os)
  exact ⟨_, rfl, K, ρ1, hI2, .i (.v rfl)⟩
end Go.AI


namespace Go.AI
open Go.Proofs
set_option maxRecDepth 20000
theorem decDigits_len : ∀ (k u : Nat), u < 10 ^ (k + 1) → (Lib.decDigits u).length ≤ k + 1
  | 0, u, h => by
    unfold Lib.decDigits
    rw [dif_pos (by omega)]
    simp
  | k + 1, u, h => by
    unfold Lib.decDigits
    split
    · simp
    · rw [List.length_append]
      have := decDigits_len k (u / 10) (by rw [Nat.pow_succ] at h; omega)
      simp only [List.length_cons, List.length_nil]
      omega
theorem itoaB_size {n : Int} (h0 : -9223372036854775808 ≤ n) (h1 : n ≤ 9223372036854775807) : (itoaB n).size ≤ 21 := by
  show (Lib.itoa n).toArray.size ≤ 21
  simp only [List.size_toArray]
  unfold Lib.itoa
  split
  · have := decDigits_len 19 n.natAbs (by omega)
    simp only [List.length_cons]
    omega
  · have := decDigits_len 19 n.toNat (by omega)
    omega
abbrev i64B (n : Int) : Prop := -9223372036854775808 ≤ n ∧ n ≤ 9223372036854775807
end Go.AI


/- Another name for one object among others. -/
namespace Go.AI
def renH (a b : Nat) : Heap → Heap
  | [] => []
  | (k, o) :: r => (renN a b k, o) :: renH a b r
theorem renN_self (a b : Nat) : renN a b a = b := by simp [renN]
theorem renN_ne {a b n : Nat} (h : n ≠ a) : renN a b n = n := by
  unfold renN
  cases hb : Nat.beq n a with
  | false => rfl
  | true => exact absurd (Nat.eq_of_beq_eq_true hb) h
theorem look_renH {a b n : Nat} {o : Ob} : ∀ {H : Heap}, look H b = none → look (renH a b H) n = some o → ∃ n0, n = renN a b n0 ∧ look H n0 = some o
  | [], _, h => by simp [renH, look] at h
  | (k, x) :: r, hb, h => by
    rw [look_cons] at hb
    split at hb
    · cases hb
    · rename_i hkb
      simp only [renH] at h
      rw [look_cons] at h
      split at h
      · rename_i e
        simp only [Option.some.injEq] at h
        subst h
        exact ⟨k, e.symm, by rw [look_cons, if_pos rfl]⟩
      · rename_i e
        obtain ⟨n0, h1, h2⟩ := look_renH hb h
        refine ⟨n0, h1, ?_⟩
        rw [look_cons, if_neg]
        · exact h2
        · intro e2
          subst e2
          exact e h1.symm
theorem look_renH' {a b n0 : Nat} {o : Ob} : ∀ {H : Heap}, look H b = none → look H n0 = some o → look (renH a b H) (renN a b n0) = some o
  | [], _, h => by simp [look] at h
  | (k, x) :: r, hb, h => by
    rw [look_cons] at hb
    split at hb
    · cases hb
    · rename_i hkb
      rw [look_cons] at h
      simp only [renH]
      rw [look_cons]
      split at h
      · rename_i e
        subst e
        rw [if_pos rfl]; exact h
      · rename_i e
        rw [if_neg]
        · exact look_renH' hb h
        · intro e2
          by_cases h1 : k = a
          · subst h1
            rw [renN_self, renN_ne (Ne.symm e)] at e2
            subst e2
            rw [hb] at h; cases h
          · rw [renN_ne h1] at e2
            by_cases h2 : n0 = a
            · subst h2; rw [renN_self] at e2; exact hkb e2
            · rw [renN_ne h2] at e2; exact e e2
section
variable {c : Cx} {s : St} {H : Heap} {O : List Heap}
theorem wk_ren (a b : Nat) (hS : s.S = H :: O) (hb : look H b = none) (hfl : allH (fun _ o => o.flat) H = true) : Wk c s { σ := renσ a b s.σ, S := renH a b H :: O, n := s.n } := by
  intro K ρ act w hi
  have hh := hi.h
  rw [hS] at hh
  let ρ' : Nat → Nat → Loc := upd ρ b (ρ 0 a)
  have hρ : ∀ n0 o, look H n0 = some o → ρ' 0 (renN a b n0) = ρ 0 n0 := by
    intro n0 o h
    by_cases h1 : n0 = a
    · subst h1; rw [renN_self]; exact upd_same _ _ _
    · rw [renN_ne h1]
      exact upd_other _ _ _ (.inr fun e => by subst e; rw [hb] at h; cases h)
  have r1 : ∀ d n, ρ' (d + 1) n = ρ (d + 1) n := fun d n => upd_other _ _ _ (.inl (by omega))
  have hren : Ren a b ρ ρ' (shape (H :: O)) (shape (renH a b H :: O)) := by
    refine ⟨fun n x e => ?_, fun d n x e => ⟨by simpa [shape, objAt] using e, r1 d n⟩⟩
    simp only [shape, objAt, List.getElem?_cons_zero] at e ⊢
    cases hl : look H n with
    | none => simp [hl] at e
    | some o =>
      rw [look_renH' hb hl]
      exact ⟨by simpa [hl] using e, hρ _ _ hl⟩
  have hmv : Moves (fun _ => false) K K ρ ρ' (shape (H :: O)) (shape (renH a b H :: O)) := ⟨K.le_refl, fun _ _ h => (by cases h), hren.s⟩
  have hcase : ∀ d n o, objAt (renH a b H :: O) d n = some o → ∃ n0, objAt (H :: O) d n0 = some o ∧ ρ' d n = ρ d n0 ∧ (d = 0 → n = renN a b n0) ∧ (d ≠ 0 → n = n0) := by
    intro d n o e
    cases d with
    | zero =>
      obtain ⟨n0, rfl, h2⟩ := look_renH hb (by simpa [objAt] using e)
      exact ⟨n0, by simpa [objAt] using h2, hρ _ _ h2, fun _ => rfl, fun h => absurd rfl h⟩
    | succ d => exact ⟨n, by simpa [objAt] using e, r1 _ _, fun h => absurd h (Nat.succ_ne_zero d), fun _ => rfl⟩
  have e0 : ∀ f : Nat → Nat → Loc, (fun d n => f (0 + d) n) = f := by intro f; funext d n; rw [Nat.zero_add]
  refine ⟨K, ρ', ⟨hh.holds, ?_, ?_, hh.size, ?_, ?_, ?_, hh.Kle, hh.Knew, hh.rest⟩, hi.defers, hi.size, fun t d e => ?_⟩
  · intro d n o e
    obtain ⟨n0, h1, h2, h3, h4⟩ := hcase d n o e
    have h0 := hh.own _ _ _ h1
    rw [h2]
    cases d with
    | zero =>
      rw [e0] at h0 ⊢
      have hf : o.flat = true := allH_look hfl (by simpa [objAt] using h1)
      refine h0.move hmv ?_ (fun _ => rfl) (fun _ _ => rfl)
      cases o with
      | box cs => exact hf
      | tb _ cs => exact hf
      | arr => rfl
      | mp => rfl
    | succ d =>
      have e1 : (fun d' n => ρ' (d + 1 + d') n) = fun d' n => ρ (d + 1 + d') n := by
        funext d' n
        rw [show d + 1 + d' = (d + d') + 1 by omega, r1]
      rw [e1]
      simpa using h0
  · intro d n o d2 n2 o2 e e2 b1 b2 hbe
    obtain ⟨m1, a1, a2, a3, a4⟩ := hcase d n o e
    obtain ⟨m2, c1, c2, c3, c4⟩ := hcase d2 n2 o2 e2
    rw [a2] at b1 hbe
    rw [c2] at b2 hbe
    obtain ⟨rfl, rfl⟩ := hh.inj _ _ _ _ _ _ a1 c1 b1 b2 hbe
    refine ⟨rfl, ?_⟩
    by_cases h : d = 0
    · rw [a3 h, c3 h]
    · rw [a4 h, c4 h]
  · intro b' hb' hno
    refine hh.old b' hb' fun d n o e hbk => ?_
    have := hno d n o (by simpa [objAt] using e) (by rw [r1]; exact hbk)
    rwa [r1] at this
  · intro n o e hbk
    obtain ⟨n0, h1, h2, _⟩ := hcase 0 n o e
    rw [h2] at hbk ⊢
    exact hh.loc _ _ h1 hbk
  · intro d
    funext n
    rw [r1, hh.outer]
  · simp only [look_renσ] at e
    cases hl : look s.σ t with
    | none => simp [hl] at e
    | some d0 =>
      simp only [hl, Option.map_some, Option.some.injEq] at e
      subst e
      have := hi.slots _ _ hl
      rw [hS] at this
      exact this.ren hren
end
end Go.AI


namespace Go.AI
open Go.Proofs
set_option maxRecDepth 20000
theorem checkVrs_zero {all : List Vr} : ∀ {l : List Vr} {i : Nat}, checkVrs all l i = 0 → ∀ v ∈ l, (-65536 ≤ v.low ∧ v.high ≤ 65536) ∧ v.low ≤ v.init ∧ v.init ≤ v.high
  | [], _, _, v, hv => by simp at hv
  | x :: r, i, h, v, hv => by
    simp only [checkVrs] at h
    split at h
    · rename_i e he
      subst h
      unfold checkVr at he
      split at he; · cases he
      split at he; · cases he
      split at he; · cases he
      split at he; · cases he
      split at he <;> cases he
    · rename_i he
      rcases List.mem_cons.1 hv with rfl | hv
      · unfold checkVr at he
        split at he; · cases he
        split at he; · cases he
        split at he; · cases he
        rename_i h3
        split at he; · cases he
        split at he; · cases he
        rename_i h4 h5
        simp only [checkVr.large, Bool.or_eq_true, decide_eq_true_eq, not_or] at h3
        omega
      · exact checkVrs_zero h v hv
theorem vars_ok {l : List Vr} (h : varsErr l = 0) : ∀ v ∈ l, (-65536 ≤ v.low ∧ v.high ≤ 65536) ∧ v.low ≤ v.init ∧ v.init ≤ v.high := by
  unfold varsErr at h
  split at h
  · cases h
  · exact checkVrs_zero h
/-- A right state. -/
def okS (m : Ext) (s : Sta) : Prop := (0 ≤ s.loc ∧ s.loc < m.locs) ∧ within m.vars s.vals = true
/-- What search has found. -/
structure Srch where
  sts : List Sta
  frm : List (Int × Int)
  flt : Int × Int
  kind : Int
end Go.AI


namespace Go.AI
open Go.Proofs
set_option maxRecDepth 20000
/-- What the loops know of what was found. -/
structure Good (m : Ext) (S : Srch) : Prop where
  len : S.sts.length ≤ 4096
  ok : ∀ s ∈ S.sts, okS m s
  fl : S.frm.length = S.sts.length
end Go.AI


namespace Go.AI
open Go.Proofs
set_option maxRecDepth 20000
end Go.AI




/- slices.Reverse: a callee of the library that writes into its caller's object. -/
namespace Go.AI
open Go.Proofs
/-- Cells, written from a place on. -/
def over (c : Array Value) : Nat → List Value → Array Value
  | _, [] => c
  | o, v :: r => over (c.setIfInBounds o v) (o + 1) r
theorem over_size : ∀ (vs : List Value) (c : Array Value) (o : Nat), (over c o vs).size = c.size
  | [], c, o => rfl
  | v :: r, c, o => by simp only [over, over_size r, Array.size_setIfInBounds]
theorem over_get : ∀ (vs : List Value) (c : Array Value) (o j : Nat), o + vs.length ≤ c.size → (over c o vs)[j]? = if o ≤ j ∧ j < o + vs.length then vs[j - o]? else c[j]?
  | [], c, o, j, _ => by
    simp only [over, List.length_nil, Nat.add_zero]
    rw [if_neg (by omega)]
  | v :: r, c, o, j, h => by
    simp only [List.length_cons] at h
    simp only [over]
    rw [over_get r _ _ _ (by simp only [Array.size_setIfInBounds]; omega)]
    simp only [List.length_cons]
    by_cases h1 : o + 1 ≤ j ∧ j < o + 1 + r.length
    · rw [if_pos h1, if_pos (by omega), show j - o = (j - (o + 1)) + 1 by omega]
      simp
    · rw [if_neg h1]
      by_cases h2 : j = o
      · subst h2
        rw [if_pos (by omega)]
        simp only [Nat.sub_self, List.getElem?_cons_zero, Array.getElem?_setIfInBounds]
        rw [if_pos trivial, if_pos (by omega)]
      · rw [if_neg (by omega), Array.getElem?_setIfInBounds, if_neg (by omega)]
theorem setCells_heap {b : Nat} : ∀ (vs : List Value) (o : Nat) (w : World) (c : Array Value) (ty : TypeId) (fr : Nat × Nat), w.heap[b]? = some (.cells c ty fr) →
    (w.setCells b o vs).heap[b]? = some (.cells (over c o vs) ty fr) ∧ (∀ b', b' ≠ b → (w.setCells b o vs).heap[b']? = w.heap[b']?) ∧ (w.setCells b o vs).heap.size = w.heap.size ∧
      (w.setCells b o vs).tape = w.tape ∧ (w.setCells b o vs).os = w.os ∧ (w.setCells b o vs).output = w.output
  | [], o, w, c, ty, fr, h => ⟨h, fun _ _ => rfl, rfl, rfl, rfl, rfl⟩
  | v :: r, o, w, c, ty, fr, h => by
    have h1 : (w.setCell ⟨b, o, none⟩ v).heap[b]? = some (.cells (c.setIfInBounds o v) ty fr) := by
      simp [World.setCell, Array.getElem?_modify, h]
    have h2 : ∀ b', b' ≠ b → (w.setCell ⟨b, o, none⟩ v).heap[b']? = w.heap[b']? := fun b' hb => by
      simp only [World.setCell, Array.getElem?_modify]
      rw [if_neg (fun e => hb e.symm)]
    obtain ⟨a1, a2, a3, a4, a5, a6⟩ := setCells_heap r (o + 1) (w.setCell ⟨b, o, none⟩ v) _ ty fr h1
    refine ⟨a1, fun b' hb => (a2 b' hb).trans (h2 b' hb), a3.trans (by simp [World.setCell]), a4, a5, a6⟩
end Go.AI


namespace Go.AI
open Go.Proofs
set_option maxRecDepth 20000
/-- Back from a place to the start. -/
def back (frm : List (Int × Int)) : Nat → Int × Int → List Int
  | 0, _ => []
  | f + 1, p => if p.1 < 0 then [] else p.2 :: back frm f (frm.getD p.1.toNat (-1, -1))
/-- Each place was found from an earlier one. -/
structure Linked (S : Srch) : Prop where
  len : S.frm.length = S.sts.length
  frm : ∀ k (h : k < S.frm.length), S.frm[k].1 < k
  flt : S.flt.1 < S.sts.length
  most : S.sts.length ≤ 4096
end Go.AI


namespace Go.AI
open Go.Proofs
set_option maxRecDepth 20000
end Go.AI


namespace Go.AI
open Go.Proofs
set_option maxRecDepth 20000
theorem exOk_leaf (o v i : Int) : exOk (.mk o v i []) := ⟨Nat.zero_le _, trivial⟩
theorem exOk_two {o v i : Int} {a b : Ex} (ha : exOk a) (hb : exOk b) : exOk (.mk o v i [a, b]) := ⟨by simp [max63], ha, hb, trivial⟩
end Go.AI


/- Plain laws: decimal texts; the counter up to a number. -/
namespace Go.AI
set_option maxRecDepth 20000
section
variable {h : Int} (h1 : 1 ≤ h) (h2 : h ≤ 8191)
include h1 h2
variable {k : Int} (k1 : 0 ≤ k) (k2 : k ≤ h)
omit h1 in
include k1 k2 in
include k1 k2 in
omit h1 in
include k1 k2 in
omit h1 in
include k1 k2 in
omit h1 in
include k1 k2 in
include k1 k2 in
include k1 k2 in
end
end Go.AI


/- Plain law: what is reached of the counter up to a number. -/
namespace Go.AI
set_option maxRecDepth 20000
def cnt (n : Nat) : List Sta := (List.range n).map fun (i : Nat) => (⟨0, [(i : Int)]⟩ : Sta)
section
variable {H : Nat} (h1 : 1 ≤ H) (h2 : H ≤ 8191)
include h1 h2
end
end Go.AI


namespace Go.AI
open Go.Proofs
set_option maxRecDepth 20000
/-- Arguments in other words. -/
theorem ASpecT.co {g : Nat} {tab : Obj} {P : Program} {f : FuncId} {args args' : List D} {O O' : List Heap} {res : D} {Hr : Heap} (h : ASpecT g tab P f args' O res Hr O') (hc : CoDL args args') : ASpecT g tab P f args O res Hr O' :=
  fun E K ρ w vs hw ht hr => h E K ρ w vs hw ht (hc.rep hr)
end Go.AI


namespace Go.AI
open Go.Proofs
set_option maxRecDepth 20000
end Go.AI


/- The way from a row to a contract. -/
namespace Go.Proofs.YtonnakcgopcfnaaDoor
open Go.ChangeShapes Go.WideShapes Go.ChangeAt Go.RowKit
set_option maxRecDepth 100000
theorem Tryd.own : ownKnob Tryd.prog.godebug = none := by kernel_rfl
theorem powG : Tryd.prog.globalNamed "internal/strconv.uint64pow10" = some 0 := by kernel_rfl
theorem isTab0 : AI.IsTab 0 := fun _ _ _ h => AI.tabIs_of powG h
theorem tab_of_laid {W : World} (h : laidMetH Tryd.prog [("math/bits.deBruijn32tab", Rows.laid_math_bits_deBruijn32tab), ("math/bits.deBruijn64tab", Rows.laid_math_bits_deBruijn64tab), ("internal/strconv.uint64pow10", Rows.laid_internal_strconv_uint64pow10)] W) :
    ∃ ty fr, W.heap[0]? = some (AI.ptab ty fr) := by
  rw [MakeChecks.laidMetH_plain _ _ _ (by kernel_rfl)] at h
  have h3 := laidMet.tail (laidMet.tail h)
  have hT : Lib.TabIs Tryd.prog W "internal/strconv.uint64pow10" .u64 Lib.pow10Tab :=
    Lib.tabIs_of_head (t := 271) (e := 23) (n := 20) powG (by kernel_rfl) (by kernel_rfl) (by kernel_rfl) (by kernel_rfl) (by kernel_rfl) (rest := []) h3
  unfold Lib.TabIs World.var? at hT
  rw [powG] at hT
  simp only [Option.bind_some] at hT
  cases hc : W.heap[0]? with
  | none => rw [hc] at hT; cases hT
  | some o =>
    rw [hc] at hT
    cases o with
    | cells cs ty fr =>
      simp only [Option.some.injEq] at hT
      subst hT
      exact ⟨ty, fr, rfl⟩
    | _ => cases hT
/-- A contract with no memory of one's own, from the outside. -/
theorem calls_of {f : FuncId} {args : List AI.D} {vs : List Value} {b : Bool} {W : World} {ty : TypeId} {fr : Nat × Nat} (h0 : W.heap[0]? = some (AI.ptab ty fr))
    (hcall : ∀ a w, (callFunc f a).run Tryd.prog w = .ok (.enter f a) w) (hs : AI.ASpecT 0 (AI.ptab ty fr) Tryd.prog f args [] (AI.bb b) [] [])
    {K : AI.Kn} (hK : ∀ bl o x, K bl o = some x → W.cell? ⟨bl, o, none⟩ = some x) (hr : ∀ ρ sh, AI.RepDL K ρ sh vs args) :
    Calls Tryd.prog f vs.toArray W fun e W' => e = .returned (.bool b) ∧ (∀ i, i < W.heap.size → W'.heap[i]? = W.heap[i]?) ∧ W'.os = W.os ∧ W'.output = W.output := by
  let ρ : Nat → Nat → AI.Loc := fun _ _ => ⟨0, 0, none⟩
  have hobj : ∀ d n, AI.objAt [] d n = none := fun d n => by simp [AI.objAt]
  have hI : AI.HInv (AI.Env.of K ρ W) K ρ [] W :=
    ⟨hK, (fun d n ob e => absurd ((hobj d n).symm.trans e) (by simp)), (fun d n ob d' n' ob' e => absurd ((hobj d n).symm.trans e) (by simp)), Nat.le_refl _, fun _ _ _ => rfl, (fun n ob e => absurd ((hobj 0 n).symm.trans e) (by simp)), fun _ => rfl, fun _ _ _ h => h, fun _ _ _ h => .inl h, rfl, rfl, rfl⟩
  have ht : AI.TabQ 0 (AI.ptab ty fr) [] ρ W := ⟨h0, fun d n x e => by simp [AI.shape, hobj] at e⟩
  rcases hs _ K ρ W vs hI ht (hr _ _) with ⟨_, h⟩ | ⟨v, w', h, _⟩
  · refine h.mono fun e W' => ?_
    rintro ⟨v, rfl, K', ρ', h1, h2⟩
    obtain rfl := AI.inv_v h2
    refine ⟨rfl, fun i hi => h1.old i hi fun d n ob e => ?_, h1.rest.2.1, h1.rest.2.2⟩
    simp [AI.objAt] at e
  · rw [hcall] at h
    cases h
theorem kept_of {W W' : World} {P : MemPlace → Prop} (h : ∀ i, i < W.heap.size → W'.heap[i]? = W.heap[i]?) (h1 : W'.os = W.os) (h2 : W'.output = W.output) : W.keptBut W' P := by
  refine ⟨h1, h2, fun i hi => ?_⟩
  rw [h i hi]
  exact (World.keptBut_refl W P).2.2 i hi
end Go.Proofs.YtonnakcgopcfnaaDoor


namespace Go.AI
open Go.Proofs
set_option maxRecDepth 20000
abbrev u8I (b : Int) : List I := [.v (.int .u8 b)]
abbrev byts (l : List Int) : D := .i (.sl 1 l.length (l.map u8I))
def byteOk (l : List Int) : Prop := ∀ b ∈ l, 0 ≤ b ∧ b ≤ 255
theorem byteOk_tail {l : List Int} (h : byteOk l) : byteOk l.tail := fun b hb => h b (List.mem_of_mem_tail hb)
def b0 (l : List Int) : Int := match l with
  | [] => 0
  | b :: _ => b
theorem b0_ok {l : List Int} (h : byteOk l) : 0 ≤ b0 l ∧ b0 l ≤ 255 := by
  cases l with
  | nil => exact ⟨Int.le_refl _, by decide⟩
  | cons b r => exact h b (by simp)
abbrev growOb (bs : List Int) (vars k : Int) : Ob := .box [byts bs, ii vars, ii k]
theorem next80 (O : List Heap) (d nm : Nat) (bs : List Int) (vars k : Int) (hb : byteOk bs) (hl : bs.length ≤ max63) (ho : objAt O d nm = some (growOb bs vars k)) :
    ASpec Tryd.prog 137 [.own d nm 0 0] O (ii (b0 bs)) [] (setAt O d nm (growOb bs.tail vars k)) := by
  have hO1 : ∀ H, objAt (H :: O) (d + 1) nm = some (growOb bs vars k) := fun H => by simpa [objAt] using ho
  cases bs with
  | nil =>
    refine aspec_intro Tk Tryd.func137 rfl Tryd.call137 Tryd.ntmps137 (Nat.le_of_ble_eq_true rfl) fun E => ?_
    refine g_run Tk Tryd.func137 ?_
    first | refine g_obj Tk Tryd.func137 (hO1 _) ?_ | refine s_obj Tk (hO1 _) ?_
    repeat (first | refine g_cnd Tk Tryd.func137 rfl (fun _ => ?_) (fun h => absurd h (by decide)) | refine g_cnd Tk Tryd.func137 rfl (fun h => absurd h (by decide)) (fun _ => ?_) | refine g_know Tk Tryd.func137 rfl (fun _ => ?_) (fun h => absurd h (by decide)) | refine g_know Tk Tryd.func137 rfl (fun h => absurd h (by decide)) (fun _ => ?_) | refine s_know Tk (fun _ => ?_) (fun h => absurd h (by decide)) | refine s_know Tk (fun h => absurd h (by decide)) (fun _ => ?_))
    refine g_rwk (wk_S (S' := _ :: setAt O d nm (growOb [] vars k)) (objAt_cons (objAt_set_id ho))) ?_
    refine g_ret Tk (r := ii 0) rfl rfl rfl trivial rfl rfl ?_
    rfl
  | cons b r =>
    have hb := hb b (by simp)
    simp only [max63, List.length_cons] at hl
    have hw : IntKind.i64.wrap b = b := w64 (by omega) (by omega)
    refine aspec_intro Tk Tryd.func137 rfl Tryd.call137 Tryd.ntmps137 (Nat.le_of_ble_eq_true rfl) fun E => ?_
    refine g_run Tk Tryd.func137 ?_
    first | refine g_obj Tk Tryd.func137 (hO1 _) ?_ | refine s_obj Tk (hO1 _) ?_
    first | refine g_cnd Tk Tryd.func137 rfl (fun h1 => ?_) (fun h1 => ?_) | refine g_know Tk Tryd.func137 rfl (fun h1 => ?_) (fun h1 => ?_) | refine s_know Tk (fun h1 => ?_) (fun h1 => ?_)
    · have h1 := beqT h1
      simp only [List.length_cons] at h1
      omega
    first | refine g_obj Tk Tryd.func137 (hO1 _) ?_ | refine s_obj Tk (hO1 _) ?_
    first | refine g_need Tk Tryd.func137 (by exact ⟨by decide, by show (0 : Int) < ((r.length + 1 : Nat) : Int); omega⟩) ?_ | refine s_need Tk (by exact ⟨by decide, by show (0 : Int) < ((r.length + 1 : Nat) : Int); omega⟩) ?_
    first | refine g_elem Tk Tryd.func137 (rfl) ?_ | refine s_elem Tk (rfl) ?_
    first | refine g_obj Tk Tryd.func137 (hO1 _) ?_ | refine s_obj Tk (hO1 _) ?_
    first | refine g_need Tk Tryd.func137 (by exact ⟨by decide, by show (1 : Int) ≤ ((r.length + 1 : Nat) : Int); omega⟩) ?_ | refine s_need Tk (by exact ⟨by decide, by show (1 : Int) ≤ ((r.length + 1 : Nat) : Int); omega⟩) ?_
    first | refine g_obj Tk Tryd.func137 (hO1 _) ?_ | refine s_obj Tk (hO1 _) ?_
    refine g_ret Tk (r := ii (IntKind.i64.wrap b)) rfl rfl rfl trivial rfl rfl ?_
    exact congrArg ii hw
def truthE (t : Bool) : Ex := .mk (if t then 6 else 7) 0 0 [zeroE, zeroE]
theorem truth81 (O : List Heap) (t : Bool) : ASpec Tryd.prog 138 [bb t] O (exA (truthE t)) [] O := by
  refine aspec_intro Tk Tryd.func138 rfl Tryd.call138 Tryd.ntmps138 (Nat.le_of_ble_eq_true rfl) fun E => ?_
  refine g_run Tk Tryd.func138 ?_
  first | refine g_cnd Tk Tryd.func138 rfl (fun h1 => ?_) (fun h1 => ?_) | refine g_know Tk Tryd.func138 rfl (fun h1 => ?_) (fun h1 => ?_) | refine s_know Tk (fun h1 => ?_) (fun h1 => ?_)
  · subst h1
    refine g_ret_co Tk (r := _) rfl rfl rfl trivial rfl rfl ?_
    repeat' (first | refine coD_tup ?_ | refine coD_agg ?_ | refine coD_i ?_ | refine CoDL.cons ?_ ?_ | exact CoDL.nil | exact coI_nil | refine coI_sl ?_ | refine CoLL.cons ?_ ?_ | exact CoLL.nil | refine CoL.cons ?_ ?_ | exact CoL.nil | exact CoI.refl _ | exact CoL.refl _ | exact CoLL.refl _ | exact CoDL.refl _ | exact CoD.refl _)
  · subst h1
    refine g_ret_co Tk (r := _) rfl rfl rfl trivial rfl rfl ?_
    repeat' (first | refine coD_tup ?_ | refine coD_agg ?_ | refine coD_i ?_ | refine CoDL.cons ?_ ?_ | exact CoDL.nil | exact coI_nil | refine coI_sl ?_ | refine CoLL.cons ?_ ?_ | exact CoLL.nil | refine CoL.cons ?_ ?_ | exact CoL.nil | exact CoI.refl _ | exact CoL.refl _ | exact CoLL.refl _ | exact CoDL.refl _ | exact CoD.refl _)
end Go.AI


namespace Go.AI
open Go.Proofs
set_option maxRecDepth 20000
def leafE (vars b : Int) : Ex := if b % 2 = 0 ∧ vars > 0 then .mk 1 0 (b / 8 % vars) [] else .mk 0 (b / 8 - 8) 0 []
/-- An expression that bytes describe; the bytes that are left; the count of calls. -/
def growR (vars : Int) : Nat → Bool → List Int → Nat → Ex × List Int × Nat
  | 0, true, bs, k => (leafE vars (b0 bs), bs.tail, k + 1)
  | 0, false, bs, k => (truthE (decide (b0 bs % 2 = 0)), bs.tail, k + 1)
  | lv + 1, true, bs, k =>
    if k + 1 > 12 ∨ b0 bs % 8 < 4 then (leafE vars (b0 bs), bs.tail, k + 1) else
    if b0 bs % 8 = 4 then (.mk 5 0 0 [(growR vars lv true bs.tail (k + 1)).1], (growR vars lv true bs.tail (k + 1)).2) else
    if b0 bs % 8 = 5 then
      (.mk 13 0 0 [(growR vars lv false bs.tail (k + 1)).1, (growR vars lv true (growR vars lv false bs.tail (k + 1)).2.1 (growR vars lv false bs.tail (k + 1)).2.2).1,
        (growR vars lv true (growR vars lv true (growR vars lv false bs.tail (k + 1)).2.1 (growR vars lv false bs.tail (k + 1)).2.2).2.1 (growR vars lv true (growR vars lv false bs.tail (k + 1)).2.1 (growR vars lv false bs.tail (k + 1)).2.2).2.2).1],
        (growR vars lv true (growR vars lv true (growR vars lv false bs.tail (k + 1)).2.1 (growR vars lv false bs.tail (k + 1)).2.2).2.1 (growR vars lv true (growR vars lv false bs.tail (k + 1)).2.1 (growR vars lv false bs.tail (k + 1)).2.2).2.2).2)
    else (.mk (2 + b0 bs / 8 % 3) 0 0 [(growR vars lv true bs.tail (k + 1)).1, (growR vars lv true (growR vars lv true bs.tail (k + 1)).2.1 (growR vars lv true bs.tail (k + 1)).2.2).1],
        (growR vars lv true (growR vars lv true bs.tail (k + 1)).2.1 (growR vars lv true bs.tail (k + 1)).2.2).2)
  | lv + 1, false, bs, k =>
    if lv = 0 ∨ k + 1 > 12 ∨ b0 bs % 8 < 4 then (.mk (6 + b0 bs / 8 % 4) 0 0 [(growR vars lv true bs.tail (k + 1)).1, (growR vars lv true (growR vars lv true bs.tail (k + 1)).2.1 (growR vars lv true bs.tail (k + 1)).2.2).1],
        (growR vars lv true (growR vars lv true bs.tail (k + 1)).2.1 (growR vars lv true bs.tail (k + 1)).2.2).2) else
    if b0 bs % 8 = 4 then (.mk 10 0 0 [(growR vars lv false bs.tail (k + 1)).1], (growR vars lv false bs.tail (k + 1)).2) else
    if b0 bs % 8 = 5 then
      (.mk 13 0 0 [(growR vars lv false bs.tail (k + 1)).1, (growR vars lv false (growR vars lv false bs.tail (k + 1)).2.1 (growR vars lv false bs.tail (k + 1)).2.2).1,
        (growR vars lv false (growR vars lv false (growR vars lv false bs.tail (k + 1)).2.1 (growR vars lv false bs.tail (k + 1)).2.2).2.1 (growR vars lv false (growR vars lv false bs.tail (k + 1)).2.1 (growR vars lv false bs.tail (k + 1)).2.2).2.2).1],
        (growR vars lv false (growR vars lv false (growR vars lv false bs.tail (k + 1)).2.1 (growR vars lv false bs.tail (k + 1)).2.2).2.1 (growR vars lv false (growR vars lv false bs.tail (k + 1)).2.1 (growR vars lv false bs.tail (k + 1)).2.2).2.2).2)
    else (.mk (11 + b0 bs / 8 % 2) 0 0 [(growR vars lv false bs.tail (k + 1)).1, (growR vars lv false (growR vars lv false bs.tail (k + 1)).2.1 (growR vars lv false bs.tail (k + 1)).2.2).1],
        (growR vars lv false (growR vars lv false bs.tail (k + 1)).2.1 (growR vars lv false bs.tail (k + 1)).2.2).2)
/-- Right bytes, and counts that do not grow far. -/
structure gOk (r : Ex × List Int × Nat) (n : Nat) (N : Nat) : Prop where
  b : byteOk r.2.1
  l : r.2.1.length ≤ n
  k : r.2.2 ≤ N
theorem growR_ok (vars : Int) : ∀ (lv : Nat) (t : Bool) (bs : List Int) (k : Nat), byteOk bs → gOk (growR vars lv t bs k) bs.length (k + 4 ^ (lv + 1) - 1) := by
  intro lv
  induction lv with
  | zero =>
    intro t bs k hb
    cases t <;> exact ⟨byteOk_tail hb, by simp [growR], by simp [growR]⟩
  | succ lv ih =>
    intro t bs k hb
    have hp : 4 ^ (lv + 1 + 1) = 4 * 4 ^ (lv + 1) := by rw [Nat.pow_succ]; omega
    have hq : 1 ≤ 4 ^ (lv + 1) := Nat.one_le_pow _ _ (by decide)
    have ht : bs.tail.length ≤ bs.length := by simp
    generalize hN : 4 ^ (lv + 1) = N at *
    have one : ∀ t, gOk (growR vars lv t bs.tail (k + 1)) bs.length (k + N) := fun t => by
      have h := ih t bs.tail (k + 1) (byteOk_tail hb)
      exact ⟨h.b, Nat.le_trans h.l ht, by have := h.k; omega⟩
    have two : ∀ t (r : Ex × List Int × Nat) M, gOk r bs.length (k + M) → gOk (growR vars lv t r.2.1 r.2.2) bs.length (k + M + N - 1) := fun t r M hr => by
      have h := ih t r.2.1 r.2.2 hr.b
      exact ⟨h.b, Nat.le_trans h.l hr.l, by have := h.k; have := hr.k; omega⟩
    have fit : ∀ (x : Ex) (r : Ex × List Int × Nat) M, gOk r bs.length (k + M) → M ≤ 4 * N - 1 → gOk (x, r.2) bs.length (k + 4 ^ (lv + 1 + 1) - 1) := fun x r M h hM => ⟨h.b, h.l, by have := h.k; rw [hp]; show r.2.2 ≤ _; omega⟩
    have leaf : ∀ x : Ex, gOk (x, bs.tail, k + 1) bs.length (k + 4 ^ (lv + 1 + 1) - 1) := fun x => ⟨byteOk_tail hb, ht, by rw [hp]; show k + 1 ≤ _; omega⟩
    have cast : ∀ (r : Ex × List Int × Nat) M, gOk r bs.length (k + M + N - 1) → gOk r bs.length (k + (M + N - 1)) := fun r M h => ⟨h.b, h.l, by have := h.k; omega⟩
    cases t with
    | true =>
      simp only [growR]
      split
      · exact leaf _
      split
      · exact fit _ _ _ (one true) (by omega)
      split
      · exact fit _ _ _ (cast _ _ (two true _ _ (cast _ _ (two true _ _ (one false))))) (by omega)
      · exact fit _ _ _ (cast _ _ (two true _ _ (one true))) (by omega)
    | false =>
      simp only [growR]
      split
      · exact fit _ _ _ (cast _ _ (two true _ _ (one true))) (by omega)
      split
      · exact fit _ _ _ (one false) (by omega)
      split
      · exact fit _ _ _ (cast _ _ (two false _ _ (cast _ _ (two false _ _ (one false))))) (by omega)
      · exact fit _ _ _ (cast _ _ (two false _ _ (one false))) (by omega)
end Go.AI


namespace Go.AI
open Go.Proofs
set_option maxRecDepth 20000
theorem os2 {S : List Heap} {d nm : Nat} (a b : Ob) (d' n' : Nat) : objAt (setAt S d nm b) d' n' = objAt (setAt (setAt S d nm a) d nm b) d' n' := objAt_set2 d' n'
theorem os3 {S : List Heap} {d nm : Nat} (a b c : Ob) (d' n' : Nat) : objAt (setAt S d nm c) d' n' = objAt (setAt (setAt (setAt S d nm a) d nm b) d nm c) d' n' := (os2 a c d' n').trans (os2 b c d' n')
structure byt (b : Int) : Prop where
  h0 : 0 ≤ b
  h1 : b ≤ 255
theorem byt.m8 {b : Int} (h : byt b) : b.tmod 8 = b % 8 := Int.tmod_eq_emod_of_nonneg h.h0
theorem byt.m2 {b : Int} (h : byt b) : b.tmod 2 = b % 2 := Int.tmod_eq_emod_of_nonneg h.h0
theorem byt.q8 {b : Int} (h : byt b) : IntKind.i64.wrap (b.tdiv 8) = b / 8 := by
  rw [Int.tdiv_eq_ediv_of_nonneg h.h0]
  have := h.h0
  have := h.h1
  rw [w64 (by omega) (by omega)]
theorem byt.q8m {b : Int} (h : byt b) {m : Int} : (IntKind.i64.wrap (b.tdiv 8)).tmod m = b / 8 % m := by
  rw [h.q8, Int.tmod_eq_emod_of_nonneg (by have := h.h0; omega)]
theorem byt.q8a {b : Int} (h : byt b) {m c : Int} (hm : 0 < m) (h1 : m ≤ 10) (hc : 0 ≤ c) (h2 : c ≤ 20) : IntKind.i64.wrap (c + (IntKind.i64.wrap (b.tdiv 8)).tmod m) = c + b / 8 % m := by
  rw [h.q8m]
  have := Int.emod_nonneg (b / 8) (show m ≠ 0 by omega)
  have := Int.emod_lt_of_pos (b / 8) hm
  rw [w64 (by omega) (by omega)]
theorem byt.q8s {b : Int} (h : byt b) : IntKind.i64.wrap (IntKind.i64.wrap (b.tdiv 8) - 8) = b / 8 - 8 := by
  rw [h.q8]
  have := h.h0
  have := h.h1
  rw [w64 (by omega) (by omega)]
abbrev exIa (x : Ex) : List I := [vi x.op, vi x.vl, vi x.ix, .sl 4 x.args.length (exIs x.args)]
theorem exA1 (o : Int) (a : Ex) : exA (.mk o 0 0 [a]) = .agg [ii o, ii 0, ii 0, .i (.sl 4 1 [exIa a])] := by simp [Ex.op, Ex.vl, Ex.ix, Ex.args, exIs, exI_eq]
theorem exA2 (o : Int) (a b : Ex) : exA (.mk o 0 0 [a, b]) = .agg [ii o, ii 0, ii 0, .i (.sl 4 2 [exIa a, exIa b])] := by simp [Ex.op, Ex.vl, Ex.ix, Ex.args, exIs, exI_eq]
theorem exA3 (o : Int) (a b c : Ex) : exA (.mk o 0 0 [a, b, c]) = .agg [ii o, ii 0, ii 0, .i (.sl 4 3 [exIa a, exIa b, exIa c])] := by simp [Ex.op, Ex.vl, Ex.ix, Ex.args, exIs, exI_eq]
def tyOf (t : Bool) : Int := match t with
  | true => 1
  | false => 2
def GrowS (vars : Int) (lv : Nat) (t : Bool) : Prop := ∀ (bs : List Int) (k : Nat) (levels : Int), levels = (lv : Int) + 1 → byteOk bs → bs.length ≤ max63 → k + 4 ^ (lv + 1) ≤ max63 → ∀ (O : List Heap) (d nm : Nat), objAt O d nm = some (growOb bs vars k) →
    ASpec Tryd.prog 74 [.own d nm 0 0, ii (tyOf t), ii levels] O (exA (growR vars lv t bs k).1) [] (setAt O d nm (growOb (growR vars lv t bs k).2.1 vars (growR vars lv t bs k).2.2))
theorem grow_stepT (vars : Int) (hv : 0 ≤ vars) (lv : Nat) (hl10 : lv ≤ 10) (ih : ∀ lv', lv = lv' + 1 → ∀ t, GrowS vars lv' t) : GrowS vars lv true := by
  obtain ⟨t, ht⟩ : ∃ t, t = true := ⟨_, rfl⟩
  rw [← ht]
  intro bs k levels hlv hb hbl hk O d nm ho
  have hO1 : ∀ H, objAt (H :: O) (d + 1) nm = some (growOb bs vars k) := fun H => by simpa [objAt] using ho
  have hn := fun O ho => next80 O (d + 1) nm bs vars (IntKind.i64.wrap ((k : Int) + 1)) hb hbl ho
  have hkk : (k : Int) + 1 ≤ 9223372036854775807 := by
    simp only [max63] at hk
    have : 1 ≤ 4 ^ (lv + 1) := Nat.one_le_pow _ _ (by decide)
    omega
  have hkw : IntKind.i64.wrap ((k : Int) + 1) = ((k + 1 : Nat) : Int) := by
    rw [w64 (by omega) (by omega)]
    omega
  have hby : byt (b0 bs) := ⟨(b0_ok hb).1, (b0_ok hb).2⟩
  have hbt := byteOk_tail hb
  have hbtl : bs.tail.length ≤ max63 := Nat.le_trans (by simp) hbl
  have hlw : lv ≠ 0 → IntKind.i64.wrap (levels - 1) = (lv : Int) := fun h => by rw [w64 (by omega) (by omega)]; omega
  -- the children
  have child : ∀ lv', lv = lv' + 1 → ∀ t' bs' k', byteOk bs' → bs'.length ≤ max63 → k' + 4 ^ (lv' + 1) ≤ max63 → ∀ O d nm, objAt O d nm = some (growOb bs' vars ((k' : Nat) : Int)) →
      ASpec Tryd.prog 74 [.own d nm 0 0, ii (tyOf t'), ii (IntKind.i64.wrap (levels - 1))] O (exA (growR vars lv' t' bs' k').1) [] (setAt O d nm (growOb (growR vars lv' t' bs' k').2.1 vars (growR vars lv' t' bs' k').2.2)) := by
    intro lv' e t' bs' k' h1 h2 h3
    exact ih lv' e t' bs' k' _ (by rw [hlw (by omega), e]; omega) h1 h2 h3
  have gok := fun lv' => growR_ok vars lv'
  have hpow : ∀ lv', lv = lv' + 1 → 4 ^ (lv + 1) = 4 * 4 ^ (lv' + 1) ∧ 1 ≤ 4 ^ (lv' + 1) := fun lv' e => by subst e; rw [Nat.pow_succ]; exact ⟨by omega, Nat.one_le_pow _ _ (by decide)⟩
  generalize hR : growR vars lv t bs k = R
  -- what the expression is, case by case
  have hleaf : t = true → lv = 0 ∨ k + 1 > 12 ∨ b0 bs % 8 < 4 → R = (leafE vars (b0 bs), bs.tail, k + 1) := by
    intro e h
    subst e
    rw [← hR]
    cases lv with
    | zero => simp only [growR]
    | succ lv' => simp only [growR]; rw [if_pos (by omega)]
  have htruth : t = false → lv = 0 → R = (truthE (decide (b0 bs % 2 = 0)), bs.tail, k + 1) := by
    intro e h
    subst e h
    rw [← hR]
    simp only [growR]
  have hT : ∀ lv', lv = lv' + 1 → t = true → ¬ (k + 1 > 12 ∨ b0 bs % 8 < 4) → R = if b0 bs % 8 = 4 then (.mk 5 0 0 [(growR vars lv' true bs.tail (k + 1)).1], (growR vars lv' true bs.tail (k + 1)).2) else
    if b0 bs % 8 = 5 then
      (.mk 13 0 0 [(growR vars lv' false bs.tail (k + 1)).1, (growR vars lv' true (growR vars lv' false bs.tail (k + 1)).2.1 (growR vars lv' false bs.tail (k + 1)).2.2).1,
        (growR vars lv' true (growR vars lv' true (growR vars lv' false bs.tail (k + 1)).2.1 (growR vars lv' false bs.tail (k + 1)).2.2).2.1 (growR vars lv' true (growR vars lv' false bs.tail (k + 1)).2.1 (growR vars lv' false bs.tail (k + 1)).2.2).2.2).1],
        (growR vars lv' true (growR vars lv' true (growR vars lv' false bs.tail (k + 1)).2.1 (growR vars lv' false bs.tail (k + 1)).2.2).2.1 (growR vars lv' true (growR vars lv' false bs.tail (k + 1)).2.1 (growR vars lv' false bs.tail (k + 1)).2.2).2.2).2)
    else (.mk (2 + b0 bs / 8 % 3) 0 0 [(growR vars lv' true bs.tail (k + 1)).1, (growR vars lv' true (growR vars lv' true bs.tail (k + 1)).2.1 (growR vars lv' true bs.tail (k + 1)).2.2).1],
        (growR vars lv' true (growR vars lv' true bs.tail (k + 1)).2.1 (growR vars lv' true bs.tail (k + 1)).2.2).2) := by
    intro lv' e e2 h
    subst e e2
    rw [← hR]
    simp only [growR]
    rw [if_neg h]
  have hF : ∀ lv', lv = lv' + 1 → t = false → R = if lv' = 0 ∨ k + 1 > 12 ∨ b0 bs % 8 < 4 then (.mk (6 + b0 bs / 8 % 4) 0 0 [(growR vars lv' true bs.tail (k + 1)).1, (growR vars lv' true (growR vars lv' true bs.tail (k + 1)).2.1 (growR vars lv' true bs.tail (k + 1)).2.2).1],
        (growR vars lv' true (growR vars lv' true bs.tail (k + 1)).2.1 (growR vars lv' true bs.tail (k + 1)).2.2).2) else
    if b0 bs % 8 = 4 then (.mk 10 0 0 [(growR vars lv' false bs.tail (k + 1)).1], (growR vars lv' false bs.tail (k + 1)).2) else
    if b0 bs % 8 = 5 then
      (.mk 13 0 0 [(growR vars lv' false bs.tail (k + 1)).1, (growR vars lv' false (growR vars lv' false bs.tail (k + 1)).2.1 (growR vars lv' false bs.tail (k + 1)).2.2).1,
        (growR vars lv' false (growR vars lv' false (growR vars lv' false bs.tail (k + 1)).2.1 (growR vars lv' false bs.tail (k + 1)).2.2).2.1 (growR vars lv' false (growR vars lv' false bs.tail (k + 1)).2.1 (growR vars lv' false bs.tail (k + 1)).2.2).2.2).1],
        (growR vars lv' false (growR vars lv' false (growR vars lv' false bs.tail (k + 1)).2.1 (growR vars lv' false bs.tail (k + 1)).2.2).2.1 (growR vars lv' false (growR vars lv' false bs.tail (k + 1)).2.1 (growR vars lv' false bs.tail (k + 1)).2.2).2.2).2)
    else (.mk (11 + b0 bs / 8 % 2) 0 0 [(growR vars lv' false bs.tail (k + 1)).1, (growR vars lv' false (growR vars lv' false bs.tail (k + 1)).2.1 (growR vars lv' false bs.tail (k + 1)).2.2).1],
        (growR vars lv' false (growR vars lv' false bs.tail (k + 1)).2.1 (growR vars lv' false bs.tail (k + 1)).2.2).2) := by
    intro lv' e e2
    subst e e2
    rw [← hR]
    simp only [growR]
  clear hR ih
  have hlev : levels ≤ 1 ↔ lv = 0 := by omega
  refine aspec_stop [3, 5, 17] Tk Tryd.func74 rfl Tryd.call74 Tryd.ntmps74 (Nat.le_of_ble_eq_true rfl) fun E => ?_
  refine g_run Tk Tryd.func74 ?_
  first | refine g_obj Tk Tryd.func74 (hO1 _) ?_ | refine s_obj Tk (hO1 _) ?_
  first | refine g_obj Tk Tryd.func74 (hO1 _) ?_ | refine s_obj Tk (hO1 _) ?_
  refine g_call Tk Tryd.func74 (hn _ (by exact up_obj (objAt_set_same ho))) rfl rfl rfl (shape_cons (shape_set (objAt_set_same ho) rfl)) rfl ?_
  obtain ⟨O2, hO2⟩ : ∃ O2, O2 = setAt O d nm (growOb bs.tail vars ((k + 1 : Nat) : Int)) := ⟨_, rfl⟩
  have ho2 : objAt O2 d nm = some (growOb bs.tail vars ((k + 1 : Nat) : Int)) := by rw [hO2]; exact objAt_set_same ho
  have hfin : ∀ c d' n', objAt (setAt O d nm c) d' n' = objAt (setAt O2 d nm c) d' n' := fun c => by rw [hO2]; exact os2 _ _
  have hfin0 : ∀ d' n', objAt (setAt O d nm (growOb bs.tail vars ((k + 1 : Nat) : Int))) d' n' = objAt O2 d' n' := fun d' n' => by rw [hO2]
  have hO3 : ∀ H, objAt (H :: O2) (d + 1) nm = some (growOb bs.tail vars ((k + 1 : Nat) : Int)) := fun H => by simpa [objAt] using ho2
  refine g_stop ?_
  refine rch_wk (wk_S (S' := [(6, Ob.box [ii 0, ii 0, ii 0, .i (.v (.slice none 0 0))])] :: O2) (objAt_cons (by rw [hO2, hkw]; exact os2 _ _))) ?_
  refine rch_meet (l := [(0, .own (d + 1) nm 0 0), (1, ii (tyOf t)), (2, ii levels), (6, .own 0 6 0 0), (7, ii (b0 bs))]) (Hv := [(6, .box [ii 0, ii 0, ii 0, .i (.v (.slice none 0 0))])]) (n := 183) ?_ ⟨rfl, rfl, rfl, rfl, rfl, trivial⟩ rfl ⟨rfl, trivial⟩ rfl rfl
  clear hn hO2 hO1
  generalize b0 bs = b at *
  cases t with
  | true =>
    have hleaf := hleaf rfl
    apply join_p (P := lv = 0 ∨ k + 1 > 12 ∨ b % 8 < 4) (s6 := { σ := [(0, .own (d + 1) nm 0 0), (6, .own 0 6 0 0), (7, ii b)], S := [(6, .box [ii 0, ii 0, ii 0, .i (.v (.slice none 0 0))])] :: O2, n := 183 })
    · intro J
      refine g_run Tk Tryd.func74 ?_
      refine g_go Tk Tryd.func74 ?_
      first | refine g_cnd Tk Tryd.func74 rfl (fun _ => ?_) (fun h => absurd h (by decide)) | refine g_know Tk Tryd.func74 rfl (fun _ => ?_) (fun h => absurd h (by decide)) | refine s_know Tk (fun _ => ?_) (fun h => absurd h (by decide))
      first | refine g_cnd Tk Tryd.func74 rfl (fun h1 => ?_) (fun h1 => ?_) | refine g_know Tk Tryd.func74 rfl (fun h1 => ?_) (fun h1 => ?_) | refine s_know Tk (fun h1 => ?_) (fun h1 => ?_)
      · repeat (first | refine g_cnd Tk Tryd.func74 rfl (fun _ => ?_) (fun h => absurd h (by decide)) | refine g_cnd Tk Tryd.func74 rfl (fun h => absurd h (by decide)) (fun _ => ?_) | refine g_know Tk Tryd.func74 rfl (fun _ => ?_) (fun h => absurd h (by decide)) | refine g_know Tk Tryd.func74 rfl (fun h => absurd h (by decide)) (fun _ => ?_) | refine s_know Tk (fun _ => ?_) (fun h => absurd h (by decide)) | refine s_know Tk (fun h => absurd h (by decide)) (fun _ => ?_))
        refine g_stop ?_
        exact rch_fit (J (.inl (hlev.1 (of_decide_eq_true h1)))) ⟨rfl, rfl, rfl, trivial⟩ rfl rfl
      have h1 : lv ≠ 0 := fun e => of_decide_eq_false h1 (hlev.2 e)
      first | refine g_obj Tk Tryd.func74 (hO3 _) ?_ | refine s_obj Tk (hO3 _) ?_
      first | refine g_cnd Tk Tryd.func74 rfl (fun h2 => ?_) (fun h2 => ?_) | refine g_know Tk Tryd.func74 rfl (fun h2 => ?_) (fun h2 => ?_) | refine s_know Tk (fun h2 => ?_) (fun h2 => ?_)
      · first | refine g_cnd Tk Tryd.func74 rfl (fun _ => ?_) (fun h => absurd h (by decide)) | refine g_know Tk Tryd.func74 rfl (fun _ => ?_) (fun h => absurd h (by decide)) | refine s_know Tk (fun _ => ?_) (fun h => absurd h (by decide))
        refine g_stop ?_
        exact rch_fit (J (.inr (.inl (by have := of_decide_eq_true h2; omega)))) ⟨rfl, rfl, rfl, trivial⟩ rfl rfl
      have h2 : ¬ k + 1 > 12 := by have := of_decide_eq_false h2; omega
      first | refine g_need Tk Tryd.func74 (by decide) ?_ | refine s_need Tk (by decide) ?_
      first | refine g_cnd Tk Tryd.func74 rfl (fun h3 => ?_) (fun h3 => ?_) | refine g_know Tk Tryd.func74 rfl (fun h3 => ?_) (fun h3 => ?_) | refine s_know Tk (fun h3 => ?_) (fun h3 => ?_)
      · refine g_stop ?_
        exact rch_fit (J (.inr (.inr (by have := of_decide_eq_true h3; rw [hby.m8] at this; exact this)))) ⟨rfl, rfl, rfl, trivial⟩ rfl rfl
      have h3 : ¬ b % 8 < 4 := by have := of_decide_eq_false h3; rw [hby.m8] at this; exact this
      obtain ⟨lv', elv⟩ : ∃ lv', lv = lv' + 1 := ⟨lv - 1, by omega⟩
      have hT := hT lv' elv rfl (by omega)
      have hp := hpow lv' elv
      have child := child lv' elv
      have gok := gok lv'
      clear J hleaf hF htruth hpow hlev
      first | refine g_need Tk Tryd.func74 (by decide) ?_ | refine s_need Tk (by decide) ?_
      first | refine g_cnd Tk Tryd.func74 rfl (fun h4 => ?_) (fun h4 => ?_) | refine g_know Tk Tryd.func74 rfl (fun h4 => ?_) (fun h4 => ?_) | refine s_know Tk (fun h4 => ?_) (fun h4 => ?_)
      · have h4 := beqT h4
        rw [hby.m8] at h4
        rw [if_pos h4] at hT
        subst hT
        have c1 := fun O ho => child true bs.tail (k + 1) hbt hbtl (by omega) O (d + 1) nm ho
        refine g_call Tk Tryd.func74 (c1 _ (by exact up_obj ho2)) rfl rfl rfl (shape_cons (shape_set ho2 rfl)) rfl ?_
        refine g_rwk (wk_S (S' := _ :: setAt O d nm _) (objAt_cons (hfin _))) ?_
        refine g_ret Tk (r := _) rfl rfl rfl trivial rfl rfl ?_
        exact (exA1 _ _).symm
      have h4 : b % 8 ≠ 4 := by have := beqF h4; rw [hby.m8] at this; exact this
      rw [if_neg h4] at hT
      first | refine g_cnd Tk Tryd.func74 rfl (fun h5 => ?_) (fun h5 => ?_) | refine g_know Tk Tryd.func74 rfl (fun h5 => ?_) (fun h5 => ?_) | refine s_know Tk (fun h5 => ?_) (fun h5 => ?_)
      · have h5 := beqT h5
        rw [hby.m8] at h5
        rw [if_pos h5] at hT
        have g1 := gok false bs.tail (k + 1) hbt
        have c1 := fun O ho => child false bs.tail (k + 1) hbt hbtl (by omega) O (d + 1) nm ho
        generalize growR vars lv' false bs.tail (k + 1) = A at *
        have gk1 := g1.k
        have gl1 := Nat.le_trans g1.l hbtl
        have g2 := gok true A.2.1 A.2.2 g1.b
        have c2 := fun O ho => child true A.2.1 A.2.2 g1.b gl1 (by omega) O (d + 1) nm ho
        generalize growR vars lv' true A.2.1 A.2.2 = B at *
        have gk2 := g2.k
        have gl2 := Nat.le_trans g2.l gl1
        have g3 := gok true B.2.1 B.2.2 g2.b
        have c3 := fun O ho => child true B.2.1 B.2.2 g2.b gl2 (by omega) O (d + 1) nm ho
        generalize growR vars lv' true B.2.1 B.2.2 = C at *
        subst hT
        refine g_call Tk Tryd.func74 (c1 _ (by exact up_obj ho2)) rfl rfl rfl (shape_cons (shape_set ho2 rfl)) rfl ?_
        refine g_call Tk Tryd.func74 (c2 _ (by exact up_obj (objAt_set_same ho2))) rfl rfl rfl (shape_cons (shape_set (objAt_set_same ho2) rfl)) rfl ?_
        refine g_call Tk Tryd.func74 (c3 _ (by exact up_obj (objAt_set_same (objAt_set_same ho2)))) rfl rfl rfl (shape_cons (shape_set (objAt_set_same (objAt_set_same ho2)) rfl)) rfl ?_
        refine g_rwk (wk_S (S' := _ :: setAt O d nm _) (objAt_cons fun d' n' => (hfin _ d' n').trans (os3 _ _ _ d' n'))) ?_
        refine g_ret Tk (r := _) rfl rfl rfl trivial rfl rfl ?_
        exact (exA3 _ _ _ _).symm
      have h5 : b % 8 ≠ 5 := by have := beqF h5; rw [hby.m8] at this; exact this
      rw [if_neg h5] at hT
      first | refine g_need Tk Tryd.func74 (by decide) ?_ | refine s_need Tk (by decide) ?_
      first | refine g_need Tk Tryd.func74 (by decide) ?_ | refine s_need Tk (by decide) ?_
      have g1 := gok true bs.tail (k + 1) hbt
      have c1 := fun O ho => child true bs.tail (k + 1) hbt hbtl (by omega) O (d + 1) nm ho
      generalize growR vars lv' true bs.tail (k + 1) = A at *
      have gk1 := g1.k
      have gl1 := Nat.le_trans g1.l hbtl
      have c2 := fun O ho => child true A.2.1 A.2.2 g1.b gl1 (by omega) O (d + 1) nm ho
      generalize growR vars lv' true A.2.1 A.2.2 = B at *
      subst hT
      refine g_call Tk Tryd.func74 (c1 _ (by exact up_obj ho2)) rfl rfl rfl (shape_cons (shape_set ho2 rfl)) rfl ?_
      refine g_call Tk Tryd.func74 (c2 _ (by exact up_obj (objAt_set_same ho2))) rfl rfl rfl (shape_cons (shape_set (objAt_set_same ho2) rfl)) rfl ?_
      refine g_rwk (wk_S (S' := _ :: setAt O d nm _) (objAt_cons fun d' n' => (hfin _ d' n').trans (os2 _ _ d' n'))) ?_
      refine g_ret Tk (r := _) rfl rfl rfl trivial rfl rfl ?_
      rw [← hby.q8a (by decide) (by decide) (by decide) (by decide)]
      exact (exA2 _ _ _).symm
    · intro hP
      have hleaf := hleaf hP
      subst hleaf
      generalize hL : leafE vars b = L
      unfold leafE at hL
      refine g_run Tk Tryd.func74 ?_
      refine g_go Tk Tryd.func74 ?_
      first | refine g_need Tk Tryd.func74 (by decide) ?_ | refine s_need Tk (by decide) ?_
      first | refine g_cnd Tk Tryd.func74 rfl (fun h1 => ?_) (fun h1 => ?_) | refine g_know Tk Tryd.func74 rfl (fun h1 => ?_) (fun h1 => ?_) | refine s_know Tk (fun h1 => ?_) (fun h1 => ?_)
      · have h1 := beqT h1
        rw [hby.m2] at h1
        first | refine g_obj Tk Tryd.func74 (hO3 _) ?_ | refine s_obj Tk (hO3 _) ?_
        first | refine g_cnd Tk Tryd.func74 rfl (fun h2 => ?_) (fun h2 => ?_) | refine g_know Tk Tryd.func74 rfl (fun h2 => ?_) (fun h2 => ?_) | refine s_know Tk (fun h2 => ?_) (fun h2 => ?_)
        · have h2 : 0 < vars := of_decide_eq_true h2
          rw [if_pos ⟨h1, h2⟩] at hL
          subst hL
          first | refine g_need Tk Tryd.func74 (by decide) ?_ | refine s_need Tk (by decide) ?_
          first | refine g_obj Tk Tryd.func74 (hO3 _) ?_ | refine s_obj Tk (hO3 _) ?_
          first | refine g_need Tk Tryd.func74 (by omega) ?_ | refine s_need Tk (by omega) ?_
          refine g_rwk (wk_S (S' := _ :: setAt O d nm _) (objAt_cons hfin0)) ?_
          refine g_ret_co Tk (r := _) rfl rfl rfl trivial rfl rfl ?_
          rw [← hby.q8m]
          repeat' (first | refine coD_tup ?_ | refine coD_agg ?_ | refine coD_i ?_ | refine CoDL.cons ?_ ?_ | exact CoDL.nil | exact coI_nil | refine coI_sl ?_ | refine CoLL.cons ?_ ?_ | exact CoLL.nil | refine CoL.cons ?_ ?_ | exact CoL.nil | exact CoI.refl _ | exact CoL.refl _ | exact CoLL.refl _ | exact CoDL.refl _ | exact CoD.refl _)
        · have h2 : ¬ 0 < vars := of_decide_eq_false h2
          rw [if_neg (by omega)] at hL
          subst hL
          first | refine g_need Tk Tryd.func74 (by decide) ?_ | refine s_need Tk (by decide) ?_
          refine g_rwk (wk_S (S' := _ :: setAt O d nm _) (objAt_cons hfin0)) ?_
          refine g_ret_co Tk (r := _) rfl rfl rfl trivial rfl rfl ?_
          rw [← hby.q8s]
          repeat' (first | refine coD_tup ?_ | refine coD_agg ?_ | refine coD_i ?_ | refine CoDL.cons ?_ ?_ | exact CoDL.nil | exact coI_nil | refine coI_sl ?_ | refine CoLL.cons ?_ ?_ | exact CoLL.nil | refine CoL.cons ?_ ?_ | exact CoL.nil | exact CoI.refl _ | exact CoL.refl _ | exact CoLL.refl _ | exact CoDL.refl _ | exact CoD.refl _)
      · have h1 := beqF h1
        rw [hby.m2] at h1
        rw [if_neg (by omega)] at hL
        subst hL
        first | refine g_cnd Tk Tryd.func74 rfl (fun h => absurd h (by decide)) (fun _ => ?_) | refine g_know Tk Tryd.func74 rfl (fun h => absurd h (by decide)) (fun _ => ?_) | refine s_know Tk (fun h => absurd h (by decide)) (fun _ => ?_)
        first | refine g_need Tk Tryd.func74 (by decide) ?_ | refine s_need Tk (by decide) ?_
        refine g_rwk (wk_S (S' := _ :: setAt O d nm _) (objAt_cons hfin0)) ?_
        refine g_ret_co Tk (r := _) rfl rfl rfl trivial rfl rfl ?_
        rw [← hby.q8s]
        repeat' (first | refine coD_tup ?_ | refine coD_agg ?_ | refine coD_i ?_ | refine CoDL.cons ?_ ?_ | exact CoDL.nil | exact coI_nil | refine coI_sl ?_ | refine CoLL.cons ?_ ?_ | exact CoLL.nil | refine CoL.cons ?_ ?_ | exact CoL.nil | exact CoI.refl _ | exact CoL.refl _ | exact CoLL.refl _ | exact CoDL.refl _ | exact CoD.refl _)
  | false => cases ht
theorem grow_stepF (vars : Int) (hv : 0 ≤ vars) (lv : Nat) (hl10 : lv ≤ 10) (ih : ∀ lv', lv = lv' + 1 → ∀ t, GrowS vars lv' t) : GrowS vars lv false := by
  obtain ⟨t, ht⟩ : ∃ t, t = false := ⟨_, rfl⟩
  rw [← ht]
  intro bs k levels hlv hb hbl hk O d nm ho
  have hO1 : ∀ H, objAt (H :: O) (d + 1) nm = some (growOb bs vars k) := fun H => by simpa [objAt] using ho
  have hn := fun O ho => next80 O (d + 1) nm bs vars (IntKind.i64.wrap ((k : Int) + 1)) hb hbl ho
  have hkk : (k : Int) + 1 ≤ 9223372036854775807 := by
    simp only [max63] at hk
    have : 1 ≤ 4 ^ (lv + 1) := Nat.one_le_pow _ _ (by decide)
    omega
  have hkw : IntKind.i64.wrap ((k : Int) + 1) = ((k + 1 : Nat) : Int) := by
    rw [w64 (by omega) (by omega)]
    omega
  have hby : byt (b0 bs) := ⟨(b0_ok hb).1, (b0_ok hb).2⟩
  have hbt := byteOk_tail hb
  have hbtl : bs.tail.length ≤ max63 := Nat.le_trans (by simp) hbl
  have hlw : lv ≠ 0 → IntKind.i64.wrap (levels - 1) = (lv : Int) := fun h => by rw [w64 (by omega) (by omega)]; omega
  -- the children
  have child : ∀ lv', lv = lv' + 1 → ∀ t' bs' k', byteOk bs' → bs'.length ≤ max63 → k' + 4 ^ (lv' + 1) ≤ max63 → ∀ O d nm, objAt O d nm = some (growOb bs' vars ((k' : Nat) : Int)) →
      ASpec Tryd.prog 74 [.own d nm 0 0, ii (tyOf t'), ii (IntKind.i64.wrap (levels - 1))] O (exA (growR vars lv' t' bs' k').1) [] (setAt O d nm (growOb (growR vars lv' t' bs' k').2.1 vars (growR vars lv' t' bs' k').2.2)) := by
    intro lv' e t' bs' k' h1 h2 h3
    exact ih lv' e t' bs' k' _ (by rw [hlw (by omega), e]; omega) h1 h2 h3
  have gok := fun lv' => growR_ok vars lv'
  have hpow : ∀ lv', lv = lv' + 1 → 4 ^ (lv + 1) = 4 * 4 ^ (lv' + 1) ∧ 1 ≤ 4 ^ (lv' + 1) := fun lv' e => by subst e; rw [Nat.pow_succ]; exact ⟨by omega, Nat.one_le_pow _ _ (by decide)⟩
  generalize hR : growR vars lv t bs k = R
  -- what the expression is, case by case
  have hleaf : t = true → lv = 0 ∨ k + 1 > 12 ∨ b0 bs % 8 < 4 → R = (leafE vars (b0 bs), bs.tail, k + 1) := by
    intro e h
    subst e
    rw [← hR]
    cases lv with
    | zero => simp only [growR]
    | succ lv' => simp only [growR]; rw [if_pos (by omega)]
  have htruth : t = false → lv = 0 → R = (truthE (decide (b0 bs % 2 = 0)), bs.tail, k + 1) := by
    intro e h
    subst e h
    rw [← hR]
    simp only [growR]
  have hT : ∀ lv', lv = lv' + 1 → t = true → ¬ (k + 1 > 12 ∨ b0 bs % 8 < 4) → R = if b0 bs % 8 = 4 then (.mk 5 0 0 [(growR vars lv' true bs.tail (k + 1)).1], (growR vars lv' true bs.tail (k + 1)).2) else
    if b0 bs % 8 = 5 then
      (.mk 13 0 0 [(growR vars lv' false bs.tail (k + 1)).1, (growR vars lv' true (growR vars lv' false bs.tail (k + 1)).2.1 (growR vars lv' false bs.tail (k + 1)).2.2).1,
        (growR vars lv' true (growR vars lv' true (growR vars lv' false bs.tail (k + 1)).2.1 (growR vars lv' false bs.tail (k + 1)).2.2).2.1 (growR vars lv' true (growR vars lv' false bs.tail (k + 1)).2.1 (growR vars lv' false bs.tail (k + 1)).2.2).2.2).1],
        (growR vars lv' true (growR vars lv' true (growR vars lv' false bs.tail (k + 1)).2.1 (growR vars lv' false bs.tail (k + 1)).2.2).2.1 (growR vars lv' true (growR vars lv' false bs.tail (k + 1)).2.1 (growR vars lv' false bs.tail (k + 1)).2.2).2.2).2)
    else (.mk (2 + b0 bs / 8 % 3) 0 0 [(growR vars lv' true bs.tail (k + 1)).1, (growR vars lv' true (growR vars lv' true bs.tail (k + 1)).2.1 (growR vars lv' true bs.tail (k + 1)).2.2).1],
        (growR vars lv' true (growR vars lv' true bs.tail (k + 1)).2.1 (growR vars lv' true bs.tail (k + 1)).2.2).2) := by
    intro lv' e e2 h
    subst e e2
    rw [← hR]
    simp only [growR]
    rw [if_neg h]
  have hF : ∀ lv', lv = lv' + 1 → t = false → R = if lv' = 0 ∨ k + 1 > 12 ∨ b0 bs % 8 < 4 then (.mk (6 + b0 bs / 8 % 4) 0 0 [(growR vars lv' true bs.tail (k + 1)).1, (growR vars lv' true (growR vars lv' true bs.tail (k + 1)).2.1 (growR vars lv' true bs.tail (k + 1)).2.2).1],
        (growR vars lv' true (growR vars lv' true bs.tail (k + 1)).2.1 (growR vars lv' true bs.tail (k + 1)).2.2).2) else
    if b0 bs % 8 = 4 then (.mk 10 0 0 [(growR vars lv' false bs.tail (k + 1)).1], (growR vars lv' false bs.tail (k + 1)).2) else
    if b0 bs % 8 = 5 then
      (.mk 13 0 0 [(growR vars lv' false bs.tail (k + 1)).1, (growR vars lv' false (growR vars lv' false bs.tail (k + 1)).2.1 (growR vars lv' false bs.tail (k + 1)).2.2).1,
        (growR vars lv' false (growR vars lv' false (growR vars lv' false bs.tail (k + 1)).2.1 (growR vars lv' false bs.tail (k + 1)).2.2).2.1 (growR vars lv' false (growR vars lv' false bs.tail (k + 1)).2.1 (growR vars lv' false bs.tail (k + 1)).2.2).2.2).1],
        (growR vars lv' false (growR vars lv' false (growR vars lv' false bs.tail (k + 1)).2.1 (growR vars lv' false bs.tail (k + 1)).2.2).2.1 (growR vars lv' false (growR vars lv' false bs.tail (k + 1)).2.1 (growR vars lv' false bs.tail (k + 1)).2.2).2.2).2)
    else (.mk (11 + b0 bs / 8 % 2) 0 0 [(growR vars lv' false bs.tail (k + 1)).1, (growR vars lv' false (growR vars lv' false bs.tail (k + 1)).2.1 (growR vars lv' false bs.tail (k + 1)).2.2).1],
        (growR vars lv' false (growR vars lv' false bs.tail (k + 1)).2.1 (growR vars lv' false bs.tail (k + 1)).2.2).2) := by
    intro lv' e e2
    subst e e2
    rw [← hR]
    simp only [growR]
  clear hR ih
  have hlev : levels ≤ 1 ↔ lv = 0 := by omega
  refine aspec_stop [3, 5, 17] Tk Tryd.func74 rfl Tryd.call74 Tryd.ntmps74 (Nat.le_of_ble_eq_true rfl) fun E => ?_
  refine g_run Tk Tryd.func74 ?_
  first | refine g_obj Tk Tryd.func74 (hO1 _) ?_ | refine s_obj Tk (hO1 _) ?_
  first | refine g_obj Tk Tryd.func74 (hO1 _) ?_ | refine s_obj Tk (hO1 _) ?_
  refine g_call Tk Tryd.func74 (hn _ (by exact up_obj (objAt_set_same ho))) rfl rfl rfl (shape_cons (shape_set (objAt_set_same ho) rfl)) rfl ?_
  obtain ⟨O2, hO2⟩ : ∃ O2, O2 = setAt O d nm (growOb bs.tail vars ((k + 1 : Nat) : Int)) := ⟨_, rfl⟩
  have ho2 : objAt O2 d nm = some (growOb bs.tail vars ((k + 1 : Nat) : Int)) := by rw [hO2]; exact objAt_set_same ho
  have hfin : ∀ c d' n', objAt (setAt O d nm c) d' n' = objAt (setAt O2 d nm c) d' n' := fun c => by rw [hO2]; exact os2 _ _
  have hfin0 : ∀ d' n', objAt (setAt O d nm (growOb bs.tail vars ((k + 1 : Nat) : Int))) d' n' = objAt O2 d' n' := fun d' n' => by rw [hO2]
  have hO3 : ∀ H, objAt (H :: O2) (d + 1) nm = some (growOb bs.tail vars ((k + 1 : Nat) : Int)) := fun H => by simpa [objAt] using ho2
  refine g_stop ?_
  refine rch_wk (wk_S (S' := [(6, Ob.box [ii 0, ii 0, ii 0, .i (.v (.slice none 0 0))])] :: O2) (objAt_cons (by rw [hO2, hkw]; exact os2 _ _))) ?_
  refine rch_meet (l := [(0, .own (d + 1) nm 0 0), (1, ii (tyOf t)), (2, ii levels), (6, .own 0 6 0 0), (7, ii (b0 bs))]) (Hv := [(6, .box [ii 0, ii 0, ii 0, .i (.v (.slice none 0 0))])]) (n := 183) ?_ ⟨rfl, rfl, rfl, rfl, rfl, trivial⟩ rfl ⟨rfl, trivial⟩ rfl rfl
  clear hn hO2 hO1
  generalize b0 bs = b at *
  cases t with
  | true => cases ht
  | false =>
    refine g_run Tk Tryd.func74 ?_
    refine g_go Tk Tryd.func74 ?_
    first | refine g_cnd Tk Tryd.func74 rfl (fun h => absurd h (by decide)) (fun _ => ?_) | refine g_know Tk Tryd.func74 rfl (fun h => absurd h (by decide)) (fun _ => ?_) | refine s_know Tk (fun h => absurd h (by decide)) (fun _ => ?_)
    first | refine g_cnd Tk Tryd.func74 rfl (fun h1 => ?_) (fun h1 => ?_) | refine g_know Tk Tryd.func74 rfl (fun h1 => ?_) (fun h1 => ?_) | refine s_know Tk (fun h1 => ?_) (fun h1 => ?_)
    · have h1 : lv = 0 := hlev.1 (of_decide_eq_true h1)
      have hR := htruth rfl h1
      subst hR
      first | refine g_need Tk Tryd.func74 (by decide) ?_ | refine s_need Tk (by decide) ?_
      first | refine g_call Tk Tryd.func74 (truth81 _ _) rfl rfl rfl rfl rfl ?_ | refine s_callq Tk (fun _ => truth81 _ _) rfl rfl rfl ?_
      refine g_rwk (wk_S (S' := _ :: setAt O d nm _) (objAt_cons hfin0)) ?_
      refine g_ret Tk (r := _) rfl rfl rfl trivial rfl rfl ?_
      rw [hby.m2]
      rfl
    have h1 : lv ≠ 0 := fun e => of_decide_eq_false h1 (hlev.2 e)
    obtain ⟨lv', elv⟩ : ∃ lv', lv = lv' + 1 := ⟨lv - 1, by omega⟩
    have hF := hF lv' elv rfl
    have hp := hpow lv' elv
    have child := child lv' elv
    have gok := gok lv'
    have hlev2 : levels ≤ 2 ↔ lv' = 0 := by omega
    clear hleaf hT htruth hpow hlev
    apply join_p (P := lv' = 0 ∨ k + 1 > 12 ∨ b % 8 < 4) (s6 := { σ := [(0, .own (d + 1) nm 0 0), (2, ii levels), (6, .own 0 6 0 0), (7, ii b)], S := [(6, .box [ii 0, ii 0, ii 0, .i (.v (.slice none 0 0))])] :: O2, n := 183 })
    · intro J
      first | refine g_cnd Tk Tryd.func74 rfl (fun h2 => ?_) (fun h2 => ?_) | refine g_know Tk Tryd.func74 rfl (fun h2 => ?_) (fun h2 => ?_) | refine s_know Tk (fun h2 => ?_) (fun h2 => ?_)
      · repeat (first | refine g_cnd Tk Tryd.func74 rfl (fun _ => ?_) (fun h => absurd h (by decide)) | refine g_cnd Tk Tryd.func74 rfl (fun h => absurd h (by decide)) (fun _ => ?_) | refine g_know Tk Tryd.func74 rfl (fun _ => ?_) (fun h => absurd h (by decide)) | refine g_know Tk Tryd.func74 rfl (fun h => absurd h (by decide)) (fun _ => ?_) | refine s_know Tk (fun _ => ?_) (fun h => absurd h (by decide)) | refine s_know Tk (fun h => absurd h (by decide)) (fun _ => ?_))
        refine g_stop ?_
        exact rch_fit (J (.inl (hlev2.1 (of_decide_eq_true h2)))) ⟨rfl, rfl, rfl, rfl, trivial⟩ rfl rfl
      have h2 : lv' ≠ 0 := fun e => of_decide_eq_false h2 (hlev2.2 e)
      first | refine g_obj Tk Tryd.func74 (hO3 _) ?_ | refine s_obj Tk (hO3 _) ?_
      first | refine g_cnd Tk Tryd.func74 rfl (fun h3 => ?_) (fun h3 => ?_) | refine g_know Tk Tryd.func74 rfl (fun h3 => ?_) (fun h3 => ?_) | refine s_know Tk (fun h3 => ?_) (fun h3 => ?_)
      · repeat (first | refine g_cnd Tk Tryd.func74 rfl (fun _ => ?_) (fun h => absurd h (by decide)) | refine g_cnd Tk Tryd.func74 rfl (fun h => absurd h (by decide)) (fun _ => ?_) | refine g_know Tk Tryd.func74 rfl (fun _ => ?_) (fun h => absurd h (by decide)) | refine g_know Tk Tryd.func74 rfl (fun h => absurd h (by decide)) (fun _ => ?_) | refine s_know Tk (fun _ => ?_) (fun h => absurd h (by decide)) | refine s_know Tk (fun h => absurd h (by decide)) (fun _ => ?_))
        refine g_stop ?_
        exact rch_fit (J (.inr (.inl (by have := of_decide_eq_true h3; omega)))) ⟨rfl, rfl, rfl, rfl, trivial⟩ rfl rfl
      have h3 : ¬ k + 1 > 12 := by have := of_decide_eq_false h3; omega
      first | refine g_need Tk Tryd.func74 (by decide) ?_ | refine s_need Tk (by decide) ?_
      first | refine g_cnd Tk Tryd.func74 rfl (fun h4 => ?_) (fun h4 => ?_) | refine g_know Tk Tryd.func74 rfl (fun h4 => ?_) (fun h4 => ?_) | refine s_know Tk (fun h4 => ?_) (fun h4 => ?_)
      · refine g_stop ?_
        exact rch_fit (J (.inr (.inr (by have := of_decide_eq_true h4; rw [hby.m8] at this; exact this)))) ⟨rfl, rfl, rfl, rfl, trivial⟩ rfl rfl
      have h4 : ¬ b % 8 < 4 := by have := of_decide_eq_false h4; rw [hby.m8] at this; exact this
      rw [if_neg (by omega)] at hF
      clear J
      first | refine g_need Tk Tryd.func74 (by decide) ?_ | refine s_need Tk (by decide) ?_
      first | refine g_cnd Tk Tryd.func74 rfl (fun h5 => ?_) (fun h5 => ?_) | refine g_know Tk Tryd.func74 rfl (fun h5 => ?_) (fun h5 => ?_) | refine s_know Tk (fun h5 => ?_) (fun h5 => ?_)
      · have h5 := beqT h5
        rw [hby.m8] at h5
        rw [if_pos h5] at hF
        subst hF
        have c1 := fun O ho => child false bs.tail (k + 1) hbt hbtl (by omega) O (d + 1) nm ho
        refine g_call Tk Tryd.func74 (c1 _ (by exact up_obj ho2)) rfl rfl rfl (shape_cons (shape_set ho2 rfl)) rfl ?_
        refine g_rwk (wk_S (S' := _ :: setAt O d nm _) (objAt_cons (hfin _))) ?_
        refine g_ret Tk (r := _) rfl rfl rfl trivial rfl rfl ?_
        exact (exA1 _ _).symm
      have h5 : b % 8 ≠ 4 := by have := beqF h5; rw [hby.m8] at this; exact this
      rw [if_neg h5] at hF
      first | refine g_need Tk Tryd.func74 (by decide) ?_ | refine s_need Tk (by decide) ?_
      first | refine g_cnd Tk Tryd.func74 rfl (fun h6 => ?_) (fun h6 => ?_) | refine g_know Tk Tryd.func74 rfl (fun h6 => ?_) (fun h6 => ?_) | refine s_know Tk (fun h6 => ?_) (fun h6 => ?_)
      · have h6 := beqT h6
        rw [hby.m8] at h6
        rw [if_pos h6] at hF
        have g1 := gok false bs.tail (k + 1) hbt
        have c1 := fun O ho => child false bs.tail (k + 1) hbt hbtl (by omega) O (d + 1) nm ho
        generalize growR vars lv' false bs.tail (k + 1) = A at *
        have gk1 := g1.k
        have gl1 := Nat.le_trans g1.l hbtl
        have g2 := gok false A.2.1 A.2.2 g1.b
        have c2 := fun O ho => child false A.2.1 A.2.2 g1.b gl1 (by omega) O (d + 1) nm ho
        generalize growR vars lv' false A.2.1 A.2.2 = B at *
        have gk2 := g2.k
        have gl2 := Nat.le_trans g2.l gl1
        have g3 := gok false B.2.1 B.2.2 g2.b
        have c3 := fun O ho => child false B.2.1 B.2.2 g2.b gl2 (by omega) O (d + 1) nm ho
        generalize growR vars lv' false B.2.1 B.2.2 = C at *
        subst hF
        refine g_call Tk Tryd.func74 (c1 _ (by exact up_obj ho2)) rfl rfl rfl (shape_cons (shape_set ho2 rfl)) rfl ?_
        refine g_call Tk Tryd.func74 (c2 _ (by exact up_obj (objAt_set_same ho2))) rfl rfl rfl (shape_cons (shape_set (objAt_set_same ho2) rfl)) rfl ?_
        refine g_call Tk Tryd.func74 (c3 _ (by exact up_obj (objAt_set_same (objAt_set_same ho2)))) rfl rfl rfl (shape_cons (shape_set (objAt_set_same (objAt_set_same ho2)) rfl)) rfl ?_
        refine g_rwk (wk_S (S' := _ :: setAt O d nm _) (objAt_cons fun d' n' => (hfin _ d' n').trans (os3 _ _ _ d' n'))) ?_
        refine g_ret Tk (r := _) rfl rfl rfl trivial rfl rfl ?_
        exact (exA3 _ _ _ _).symm
      have h6 : b % 8 ≠ 5 := by have := beqF h6; rw [hby.m8] at this; exact this
      rw [if_neg h6] at hF
      first | refine g_need Tk Tryd.func74 (by decide) ?_ | refine s_need Tk (by decide) ?_
      first | refine g_need Tk Tryd.func74 (by decide) ?_ | refine s_need Tk (by decide) ?_
      have g1 := gok false bs.tail (k + 1) hbt
      have c1 := fun O ho => child false bs.tail (k + 1) hbt hbtl (by omega) O (d + 1) nm ho
      generalize growR vars lv' false bs.tail (k + 1) = A at *
      have gk1 := g1.k
      have gl1 := Nat.le_trans g1.l hbtl
      have c2 := fun O ho => child false A.2.1 A.2.2 g1.b gl1 (by omega) O (d + 1) nm ho
      generalize growR vars lv' false A.2.1 A.2.2 = B at *
      subst hF
      refine g_call Tk Tryd.func74 (c1 _ (by exact up_obj ho2)) rfl rfl rfl (shape_cons (shape_set ho2 rfl)) rfl ?_
      refine g_call Tk Tryd.func74 (c2 _ (by exact up_obj (objAt_set_same ho2))) rfl rfl rfl (shape_cons (shape_set (objAt_set_same ho2) rfl)) rfl ?_
      refine g_rwk (wk_S (S' := _ :: setAt O d nm _) (objAt_cons fun d' n' => (hfin _ d' n').trans (os2 _ _ d' n'))) ?_
      refine g_ret Tk (r := _) rfl rfl rfl trivial rfl rfl ?_
      rw [← hby.q8a (by decide) (by decide) (by decide) (by decide)]
      exact (exA2 _ _ _).symm
    · intro hP
      rw [if_pos hP] at hF
      have g1 := gok true bs.tail (k + 1) hbt
      have c1 := fun O ho => child true bs.tail (k + 1) hbt hbtl (by omega) O (d + 1) nm ho
      generalize growR vars lv' true bs.tail (k + 1) = A at *
      have gk1 := g1.k
      have gl1 := Nat.le_trans g1.l hbtl
      have c2 := fun O ho => child true A.2.1 A.2.2 g1.b gl1 (by omega) O (d + 1) nm ho
      generalize growR vars lv' true A.2.1 A.2.2 = B at *
      subst hF
      refine g_run Tk Tryd.func74 ?_
      refine g_go Tk Tryd.func74 ?_
      first | refine g_need Tk Tryd.func74 (by decide) ?_ | refine s_need Tk (by decide) ?_
      first | refine g_need Tk Tryd.func74 (by decide) ?_ | refine s_need Tk (by decide) ?_
      refine g_call Tk Tryd.func74 (c1 _ (by exact up_obj ho2)) rfl rfl rfl (shape_cons (shape_set ho2 rfl)) rfl ?_
      refine g_call Tk Tryd.func74 (c2 _ (by exact up_obj (objAt_set_same ho2))) rfl rfl rfl (shape_cons (shape_set (objAt_set_same ho2) rfl)) rfl ?_
      refine g_rwk (wk_S (S' := _ :: setAt O d nm _) (objAt_cons fun d' n' => (hfin _ d' n').trans (os2 _ _ d' n'))) ?_
      refine g_ret Tk (r := _) rfl rfl rfl trivial rfl rfl ?_
      rw [← hby.q8a (by decide) (by decide) (by decide) (by decide)]
      exact (exA2 _ _ _).symm
theorem grow64 (vars : Int) (hv : 0 ≤ vars) : ∀ lv, lv ≤ 10 → ∀ t, GrowS vars lv t
  | 0, h, true => grow_stepT vars hv 0 h fun lv' e => by omega
  | 0, h, false => grow_stepF vars hv 0 h fun lv' e => by omega
  | lv + 1, h, true => grow_stepT vars hv (lv + 1) h fun lv' e t => by
    obtain rfl : lv = lv' := by omega
    exact grow64 vars hv lv (by omega) t
  | lv + 1, h, false => grow_stepF vars hv (lv + 1) h fun lv' e t => by
    obtain rfl : lv = lv' := by omega
    exact grow64 vars hv lv (by omega) t
/-- Grow: an expression of a type over some variables that bytes describe. -/
def growE (vars : Int) (t : Bool) (bs : List Int) : Ex := (growR vars 4 t (bs.take 60) 0).1
theorem grow46 (O : List Heap) (bs : List Int) (vars : Int) (t : Bool) (hv : 0 ≤ vars) (hb : byteOk bs) (hl : bs.length ≤ max63) :
    ASpec Tryd.prog 22 [byts bs, ii vars, ii (tyOf t)] O (exA (growE vars t bs)) [] O := by
  have hb' : byteOk (bs.take 60) := fun b h => hb b (List.mem_of_mem_take h)
  have hl' : (bs.take 60).length ≤ max63 := Nat.le_trans (List.length_take_le _ _) (by decide)
  have hg := fun O d nm ho => grow64 vars hv 4 (by decide) t (bs.take 60) 0 5 rfl hb' hl' (by decide) O d nm ho
  unfold growE
  generalize growR vars 4 t (bs.take 60) 0 = R at *
  have hmin : (if (60 : Int) < bs.length then (60 : Int) else bs.length).toNat = (bs.take 60).length := by
    simp only [List.length_take]
    split <;> omega
  have htk : (bs.map u8I).take (if (60 : Int) < bs.length then (60 : Int) else bs.length).toNat = (bs.take 60).map u8I := by
    rw [hmin, List.map_take, List.take_eq_take_iff]
    simp
  have hobj : some (Ob.box [.i (.sl 1 (if (60 : Int) < bs.length then (60 : Int) else bs.length).toNat ((bs.map u8I).take (if (60 : Int) < bs.length then (60 : Int) else bs.length).toNat)), ii vars, ii 0]) = some (growOb (bs.take 60) vars ((0 : Nat) : Int)) := by
    rw [htk, hmin]
    rfl
  refine aspec_intro Tk Tryd.func22 rfl Tryd.call22 Tryd.ntmps22 (Nat.le_of_ble_eq_true rfl) fun E => ?_
  refine g_run Tk Tryd.func22 ?_
  first | refine g_need Tk Tryd.func22 (by split <;> omega) ?_ | refine s_need Tk (by split <;> omega) ?_
  refine g_call Tk Tryd.func22 (hg _ 0 15 (by exact hobj)) rfl rfl rfl (by exact shape_over rfl rfl) rfl ?_
  refine g_ret Tk (r := _) rfl rfl rfl trivial rfl rfl ?_
  rfl
end Go.AI
