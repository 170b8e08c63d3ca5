/- The layer of abstract runs, part 38. -/
import Derived.Test.YtdehnnadfbildaaGreatDoorStpZK
set_option linter.unusedSimpArgs false
set_option linter.unusedVariables false
set_option linter.all false

namespace Go.AI
open Go.Proofs
set_option maxRecDepth 20000
abbrev tr (p : Prop) [Decidable p] : Int := if p then 1 else 0
/-- The result of an operation with two arguments. -/
def ap2 (op a b : Int) : Int :=
  if op = 2 then a + b else if op = 3 then a - b else if op = 4 then a * b else
  if op = 6 then tr (a = b) else if op = 7 then tr (a ≠ b) else if op = 8 then tr (a < b) else if op = 9 then tr (a ≤ b) else
  if op = 11 then a * b else if a = 0 then b else a
def ap1 (op a : Int) : Int := if op = 5 then -a else 1 - a
def applyR (op : Int) : List Int → Int
  | [a] => ap1 op a
  | [a, b] => ap2 op a b
  | _ => 0
theorem mulb {a b : Int} (ha : -1073741824 ≤ a ∧ a ≤ 1073741824) (hb : -1073741824 ≤ b ∧ b ≤ 1073741824) : -1152921504606846976 ≤ a * b ∧ a * b ≤ 1152921504606846976 := by
  have h1 : (a.natAbs * b.natAbs) ≤ 1073741824 * 1073741824 := Nat.mul_le_mul (by omega) (by omega)
  have h2 : (a * b).natAbs = a.natAbs * b.natAbs := Int.natAbs_mul a b
  omega
theorem apply2 (O : List Heap) (op a b : Int) (hop : op = 2 ∨ op = 3 ∨ op = 4 ∨ op = 6 ∨ op = 7 ∨ op = 8 ∨ op = 9 ∨ op = 11 ∨ op = 12) (ha : -1073741824 ≤ a ∧ a ≤ 1073741824) (hb : -1073741824 ≤ b ∧ b ≤ 1073741824)
    (hl : op = 11 ∨ op = 12 → (a = 0 ∨ a = 1) ∧ (b = 0 ∨ b = 1)) : ASpec Tryz.prog 116 [ii op, ints [a, b]] O (ii (ap2 op a b)) [] O := by
  have hm := mulb ha hb
  refine aspec_intro Tk Tryz.func116 rfl Tryz.call116 Tryz.ntmps116 (Nat.le_of_ble_eq_true rfl) fun E => ?_
  refine g_run Tk Tryz.func116 ?_
  rcases hop with rfl | rfl | rfl | rfl | rfl | rfl | rfl | rfl | rfl
  all_goals
    repeat (first | refine g_cnd Tk Tryz.func116 rfl (fun _ => ?_) (fun h => absurd h (by decide)) | refine g_cnd Tk Tryz.func116 rfl (fun h => absurd h (by decide)) (fun _ => ?_) | refine g_know Tk Tryz.func116 rfl (fun _ => ?_) (fun h => absurd h (by decide)) | refine g_know Tk Tryz.func116 rfl (fun h => absurd h (by decide)) (fun _ => ?_) | refine s_know Tk (fun _ => ?_) (fun h => absurd h (by decide)) | refine s_know Tk (fun h => absurd h (by decide)) (fun _ => ?_))
    refine g_drawn Tk Tryz.func116 mixedT rfl ?_
    first | refine g_need Tk Tryz.func116 (by simp) ?_ | refine s_need Tk (by simp) ?_
    first | refine g_elem Tk Tryz.func116 (rfl) ?_ | refine s_elem Tk (rfl) ?_
    first | refine g_need Tk Tryz.func116 (by simp) ?_ | refine s_need Tk (by simp) ?_
    first | refine g_elem Tk Tryz.func116 (rfl) ?_ | refine s_elem Tk (rfl) ?_
  · refine e_done Tk Tryz.func116 (by kernel_rfl) ?_
    refine g_ret Tk (r := ii _) rfl rfl rfl trivial rfl rfl ?_
    exact congrArg ii (w64 (by omega) (by omega))
  · refine e_done Tk Tryz.func116 (by kernel_rfl) ?_
    refine g_ret Tk (r := ii _) rfl rfl rfl trivial rfl rfl ?_
    exact congrArg ii (w64 (by omega) (by omega))
  · refine e_done Tk Tryz.func116 (by kernel_rfl) ?_
    refine g_ret Tk (r := ii _) rfl rfl rfl trivial rfl rfl ?_
    exact congrArg ii (w64 (by omega) (by omega))
  · first | refine g_call Tk Tryz.func116 (truth95 _ _) rfl rfl rfl rfl rfl ?_ | refine s_call Tk (truth95 _ _) rfl rfl rfl ?_
    refine e_done Tk Tryz.func116 (by kernel_rfl) ?_
    refine g_ret Tk (r := ii _) rfl rfl rfl trivial rfl rfl ?_
    by_cases h : a = b <;> simp [ap2, tr, h]
  · first | refine g_call Tk Tryz.func116 (truth95 _ _) rfl rfl rfl rfl rfl ?_ | refine s_call Tk (truth95 _ _) rfl rfl rfl ?_
    refine e_done Tk Tryz.func116 (by kernel_rfl) ?_
    refine g_ret Tk (r := ii _) rfl rfl rfl trivial rfl rfl ?_
    by_cases h : a = b <;> simp [ap2, tr, h]
  · first | refine g_call Tk Tryz.func116 (truth95 _ _) rfl rfl rfl rfl rfl ?_ | refine s_call Tk (truth95 _ _) rfl rfl rfl ?_
    refine e_done Tk Tryz.func116 (by kernel_rfl) ?_
    refine g_ret Tk (r := ii _) rfl rfl rfl trivial rfl rfl ?_
    by_cases h : a < b <;> simp [ap2, tr, h]
  · first | refine g_call Tk Tryz.func116 (truth95 _ _) rfl rfl rfl rfl rfl ?_ | refine s_call Tk (truth95 _ _) rfl rfl rfl ?_
    refine e_done Tk Tryz.func116 (by kernel_rfl) ?_
    refine g_ret Tk (r := ii _) rfl rfl rfl trivial rfl rfl ?_
    by_cases h : a ≤ b <;> simp [ap2, tr, h]
  · refine e_done Tk Tryz.func116 (by kernel_rfl) ?_
    refine g_ret Tk (r := ii _) rfl rfl rfl trivial rfl rfl ?_
    obtain ⟨rfl | rfl, rfl | rfl⟩ := hl (.inl rfl) <;> rfl
  · refine e_done Tk Tryz.func116 (by kernel_rfl) ?_
    refine g_ret Tk (r := ii _) rfl rfl rfl trivial rfl rfl ?_
    obtain ⟨rfl | rfl, rfl | rfl⟩ := hl (.inr rfl) <;> rfl
theorem apply1 (O : List Heap) (op a : Int) (hop : op = 5 ∨ op = 10) (ha : -1073741824 ≤ a ∧ a ≤ 1073741824) : ASpec Tryz.prog 116 [ii op, ints [a]] O (ii (ap1 op a)) [] O := by
  refine aspec_intro Tk Tryz.func116 rfl Tryz.call116 Tryz.ntmps116 (Nat.le_of_ble_eq_true rfl) fun E => ?_
  refine g_run Tk Tryz.func116 ?_
  rcases hop with rfl | rfl
  all_goals
    repeat (first | refine g_cnd Tk Tryz.func116 rfl (fun _ => ?_) (fun h => absurd h (by decide)) | refine g_cnd Tk Tryz.func116 rfl (fun h => absurd h (by decide)) (fun _ => ?_) | refine g_know Tk Tryz.func116 rfl (fun _ => ?_) (fun h => absurd h (by decide)) | refine g_know Tk Tryz.func116 rfl (fun h => absurd h (by decide)) (fun _ => ?_) | refine s_know Tk (fun _ => ?_) (fun h => absurd h (by decide)) | refine s_know Tk (fun h => absurd h (by decide)) (fun _ => ?_))
    first | refine g_need Tk Tryz.func116 (by simp) ?_ | refine s_need Tk (by simp) ?_
    first | refine g_elem Tk Tryz.func116 (rfl) ?_ | refine s_elem Tk (rfl) ?_
    refine g_ret Tk (r := ii _) rfl rfl rfl trivial rfl rfl ?_
  · exact congrArg ii ((w64 (by omega) (by omega)).trans (Int.zero_sub a))
  · exact congrArg ii (w64 (by omega) (by omega))
/-- Check: the type, or the first error. -/
def checkX (x : Ex) (n : Int) : Int × Int :=
  if n < 0 ∨ n > 16 then (0, 2) else if (formR x n 1 0).1 ≠ 0 then (0, (formR x n 1 0).1) else if kindR x = 0 then (0, 16) else (kindR x, 0)
theorem check67 (O : List Heap) (x : Ex) (n : Int) (hok : exOk x) : ASpec Tryz.prog 73 [exD x, ii n] O (.tup [ii (checkX x n).1, ii (checkX x n).2]) [] O := by
  have hf := fun O ho => formed84 (SizeOf.sizeOf x + 1) x (by omega) hok O 0 6 n 1 0 ho (by omega) (by omega) (by omega) (by omega)
  have hk := fun hw O => kind85 n (SizeOf.sizeOf x + 1) x (by omega) hw O
  generalize hR : checkX x n = R
  unfold checkX at hR
  have hwf := formR_wf x n 1 0
  obtain ⟨op, v, ix, args⟩ := x
  refine aspec_intro Tk Tryz.func73 rfl Tryz.call73 Tryz.ntmps73 (Nat.le_of_ble_eq_true rfl) fun E => ?_
  refine g_run Tk Tryz.func73 ?_
  first | refine g_cnd Tk Tryz.func73 rfl (fun h1 => ?_) (fun h1 => ?_) | refine g_know Tk Tryz.func73 rfl (fun h1 => ?_) (fun h1 => ?_) | refine s_know Tk (fun h1 => ?_) (fun h1 => ?_)
  · have h1 : n < 0 := of_decide_eq_true h1
    rw [if_pos (.inl h1)] at hR
    subst hR
    repeat (first | refine g_cnd Tk Tryz.func73 rfl (fun _ => ?_) (fun h => absurd h (by decide)) | refine g_cnd Tk Tryz.func73 rfl (fun h => absurd h (by decide)) (fun _ => ?_) | refine g_know Tk Tryz.func73 rfl (fun _ => ?_) (fun h => absurd h (by decide)) | refine g_know Tk Tryz.func73 rfl (fun h => absurd h (by decide)) (fun _ => ?_) | refine s_know Tk (fun _ => ?_) (fun h => absurd h (by decide)) | refine s_know Tk (fun h => absurd h (by decide)) (fun _ => ?_))
    refine g_ret Tk (r := .tup [ii 0, ii 2]) rfl rfl rfl trivial rfl rfl ?_
    rfl
  · have h1 : ¬ n < 0 := of_decide_eq_false h1
    first | refine g_cnd Tk Tryz.func73 rfl (fun h2 => ?_) (fun h2 => ?_) | refine g_know Tk Tryz.func73 rfl (fun h2 => ?_) (fun h2 => ?_) | refine s_know Tk (fun h2 => ?_) (fun h2 => ?_)
    · have h2 : 16 < n := of_decide_eq_true h2
      rw [if_pos (.inr h2)] at hR
      subst hR
      refine g_ret Tk (r := .tup [ii 0, ii 2]) rfl rfl rfl trivial rfl rfl ?_
      rfl
    · have h2 : ¬ 16 < n := of_decide_eq_false h2
      rw [if_neg (by omega)] at hR
      refine g_call Tk Tryz.func73 (hf _ rfl) rfl rfl rfl (shape_over (ob := .box [ii 0]) rfl rfl) rfl ?_
      generalize formR (.mk op v ix args) n 1 0 = Q at hR hwf
      first | refine g_cnd Tk Tryz.func73 rfl (fun h3 => ?_) (fun h3 => ?_) | refine g_know Tk Tryz.func73 rfl (fun h3 => ?_) (fun h3 => ?_) | refine s_know Tk (fun h3 => ?_) (fun h3 => ?_)
      · have h3 := bneT h3
        rw [if_pos h3] at hR
        subst hR
        refine g_ret Tk (r := .tup [ii 0, ii _]) rfl rfl rfl trivial rfl rfl ?_
        rfl
      · have h3 := bneF h3
        rw [if_neg (by simpa using h3)] at hR
        first | refine g_call Tk Tryz.func73 (hk (hwf h3) _) rfl rfl rfl rfl rfl ?_ | refine s_call Tk (hk (hwf h3) _) rfl rfl rfl ?_
        generalize kindR (.mk op v ix args) = k at hR
        first | refine g_cnd Tk Tryz.func73 rfl (fun h4 => ?_) (fun h4 => ?_) | refine g_know Tk Tryz.func73 rfl (fun h4 => ?_) (fun h4 => ?_) | refine s_know Tk (fun h4 => ?_) (fun h4 => ?_)
        · have h4 := beqT h4
          rw [if_pos h4] at hR
          subst hR
          refine g_ret Tk (r := .tup [ii 0, ii 16]) rfl rfl rfl trivial rfl rfl ?_
          rfl
        · have h4 := beqF h4
          rw [if_neg h4] at hR
          subst hR
          refine g_ret Tk (r := .tup [ii _, ii 0]) rfl rfl rfl trivial rfl rfl ?_
          rfl
/-- The error of an expression that should have a type. -/
def typedX (x : Ex) (n kind : Int) : Int := if (checkX x n).2 = 0 ∧ (checkX x n).1 ≠ kind then 16 else (checkX x n).2
theorem checkExpr78 (O : List Heap) (x : Ex) (n k : Int) (hok : exOk x) : ASpec Tryz.prog 92 [exD x, ii n, ii k] O (ii (typedX x n k)) [] O := by
  have hc := fun O => check67 O x n hok
  unfold typedX
  obtain ⟨op, v, ix, args⟩ := x
  generalize checkX (.mk op v ix args) n = R at *
  refine aspec_intro Tk Tryz.func92 rfl Tryz.call92 Tryz.ntmps92 (Nat.le_of_ble_eq_true rfl) fun E => ?_
  refine g_run Tk Tryz.func92 ?_
  first | refine g_call Tk Tryz.func92 (hc _) rfl rfl rfl rfl rfl ?_ | refine s_call Tk (hc _) rfl rfl rfl ?_
  first | refine g_cnd Tk Tryz.func92 rfl (fun h1 => ?_) (fun h1 => ?_) | refine g_know Tk Tryz.func92 rfl (fun h1 => ?_) (fun h1 => ?_) | refine s_know Tk (fun h1 => ?_) (fun h1 => ?_)
  · have h1 := beqT h1
    first | refine g_cnd Tk Tryz.func92 rfl (fun h2 => ?_) (fun h2 => ?_) | refine g_know Tk Tryz.func92 rfl (fun h2 => ?_) (fun h2 => ?_) | refine s_know Tk (fun h2 => ?_) (fun h2 => ?_)
    · have h2 := bneT h2
      rw [if_pos ⟨h1, h2⟩]
      refine g_ret Tk (r := ii 16) rfl rfl rfl trivial rfl rfl ?_
      rfl
    · have h2 := bneF h2
      rw [if_neg (by simp [h1, h2])]
      refine g_ret Tk (r := ii _) rfl rfl rfl trivial rfl rfl ?_
      rfl
  · have h1 := beqF h1
    rw [if_neg (by simp [h1])]
    repeat (first | refine g_cnd Tk Tryz.func92 rfl (fun _ => ?_) (fun h => absurd h (by decide)) | refine g_cnd Tk Tryz.func92 rfl (fun h => absurd h (by decide)) (fun _ => ?_) | refine g_know Tk Tryz.func92 rfl (fun _ => ?_) (fun h => absurd h (by decide)) | refine g_know Tk Tryz.func92 rfl (fun h => absurd h (by decide)) (fun _ => ?_) | refine s_know Tk (fun _ => ?_) (fun h => absurd h (by decide)) | refine s_know Tk (fun h => absurd h (by decide)) (fun _ => ?_))
    refine g_ret Tk (r := ii _) rfl rfl rfl trivial rfl rfl ?_
    rfl
end Go.AI


namespace Go.AI
open Go.Proofs
set_option maxRecDepth 20000
abbrev largeB (a b : Int) : Bool := decide (b < a) || decide (a < -b)
mutual
/-- The value of an expression; false if it overflows. -/
def evalR (vals : List Int) : Ex → Int × Bool
  | .mk op v ix args =>
    if op = 0 then (v, true) else if op = 1 then (vals.getD ix.toNat 0, true) else if op = 13 then evalI vals args else
    match evalRs vals args with
    | none => (0, false)
    | some l => (applyR op l, !largeB (applyR op l) 1073741824)
def evalI (vals : List Int) : List Ex → Int × Bool
  | [c, a, b] => if (evalR vals c).2 = false then (0, false) else if (evalR vals c).1 = 1 then evalR vals a else evalR vals b
  | _ => (0, false)
def evalRs (vals : List Int) : List Ex → Option (List Int)
  | [] => some []
  | e :: r => if (evalR vals e).2 = false then none else (evalRs vals r).map ((evalR vals e).1 :: ·)
end
/-- Values, of types. -/
def Ty2 : List Int → List Int → Prop
  | [], [] => True
  | x :: xs, k :: ks => (-1073741824 ≤ x ∧ x ≤ 1073741824) ∧ (k = 2 → x = 0 ∨ x = 1) ∧ Ty2 xs ks
  | _, _ => False
theorem tr01 (p : Prop) [Decidable p] : tr p = 0 ∨ tr p = 1 := by unfold tr; split <;> simp
theorem largeB_false {a b : Int} (h : (!largeB a b) = true) : -b ≤ a ∧ a ≤ b := by
  have := orF (notT h)
  omega
theorem kind_app {op : Int} {ks l : List Int} (ha : (arity op).2 = true) (h0 : op ≠ 0) (h1 : op ≠ 1) (h13 : op ≠ 13) (hlen : (ks.length : Int) = (arity op).1) (ht : Ty2 l ks) (hk : kindOp op ks = 2) : applyR op l = 0 ∨ applyR op l = 1 := by
  have two : ∀ {p : Nat}, (ks.length : Int) = 2 → ∃ a b k1 k2, l = [a, b] ∧ ks = [k1, k2] := by
    intro _ h
    match ks, l, ht with
    | [], _, _ => simp at h
    | [_], _, _ => simp at h
    | [k1, k2], [a, b], _ => exact ⟨a, b, k1, k2, rfl, rfl⟩
    | _ :: _ :: _ :: _, _, _ => simp at h; omega
  have one : (ks.length : Int) = 1 → ∃ a k1, l = [a] ∧ ks = [k1] := by
    intro h
    match ks, l, ht with
    | [], _, _ => simp at h
    | [k1], [a], _ => exact ⟨a, k1, rfl, rfl⟩
    | _ :: _ :: _, _, _ => simp at h; omega
  rcases arity_cases ha with h | h | h | h | h
  · omega
  · unfold kindOp at hk
    rw [if_neg (by omega), if_pos h] at hk
    split at hk <;> cases hk
  · obtain ⟨a, b, k1, k2, rfl, rfl⟩ := two (p := 0) (by rcases h with rfl | rfl | rfl | rfl <;> exact hlen)
    rcases h with rfl | rfl | rfl | rfl <;> exact tr01 _
  · unfold kindOp at hk
    rw [if_neg (by omega), if_neg (by omega), if_neg (by omega), if_pos h] at hk
    split at hk
    · rename_i hall
      rcases h with rfl | rfl | rfl
      · obtain ⟨a, k1, rfl, rfl⟩ := one hlen
        simp only [List.all_cons, List.all_nil, Bool.and_true, decide_eq_true_eq] at hall
        obtain ⟨-, h2, -⟩ := ht
        rcases h2 hall with rfl | rfl <;> decide
      all_goals
        obtain ⟨a, b, k1, k2, rfl, rfl⟩ := two (p := 0) hlen
        simp only [List.all_cons, List.all_nil, Bool.and_true, Bool.and_eq_true, decide_eq_true_eq] at hall
        obtain ⟨-, h2, -, h3, -⟩ := ht
        rcases h2 hall.1 with rfl | rfl <;> rcases h3 hall.2 with rfl | rfl <;> decide
    · cases hk
  · omega
theorem kindOp_ite {ks : List Int} (h : kindOp 13 ks ≠ 0) : ks.getD 0 0 = 2 ∧ ks.getD 1 0 = ks.getD 2 0 ∧ kindOp 13 ks = ks.getD 1 0 := by
  unfold kindOp at h ⊢
  rw [if_neg (by omega), if_neg (by omega), if_neg (by omega), if_neg (by omega), if_pos rfl] at h ⊢
  split at h
  · rename_i h1
    exact ⟨h1.1, h1.2, by rw [if_pos h1]⟩
  · exact absurd rfl h
theorem kindRs_nz {args : List Ex} {ks : List Int} (h : kindRs args = some ks) : ∀ e ∈ args, kindR e ≠ 0 := by
  induction args generalizing ks with
  | nil => simp
  | cons e r ih =>
    simp only [kindRs] at h
    split at h
    · cases h
    · rename_i h1
      cases hk : kindRs r with
      | none => simp [hk] at h
      | some l =>
        intro x hx
        rcases List.mem_cons.1 hx with rfl | hx
        · exact h1
        · exact ih hk x hx
theorem evalRs_len {vals : List Int} {args : List Ex} {l : List Int} (h : evalRs vals args = some l) : l.length = args.length := by
  induction args generalizing l with
  | nil => simp only [evalRs, Option.some.injEq] at h; subst h; rfl
  | cons e r ih =>
    simp only [evalRs] at h
    split at h
    · cases h
    · cases hk : evalRs vals r with
      | none => simp [hk] at h
      | some l' =>
        simp only [hk, Option.map_some, Option.some.injEq] at h
        subst h
        simp [ih hk]
theorem Ty2.len : ∀ {l ks : List Int}, Ty2 l ks → l.length = ks.length
  | [], [], _ => rfl
  | _ :: xs, _ :: ks, h => by simp [Ty2.len h.2.2]
  | [], _ :: _, h => h.elim
  | _ :: _, [], h => h.elim
section
variable {n : Int} {vals : List Int} (hn : (vals.length : Int) = n) (hv : ∀ x ∈ vals, -65536 ≤ x ∧ x ≤ 65536)
include hn hv
theorem eval_ty : ∀ (N : Nat) (x : Ex), SizeOf.sizeOf x < N → wfE n x → kindR x ≠ 0 → (evalR vals x).2 = true → (-1073741824 ≤ (evalR vals x).1 ∧ (evalR vals x).1 ≤ 1073741824) ∧ (kindR x = 2 → (evalR vals x).1 = 0 ∨ (evalR vals x).1 = 1) := by
  intro N
  induction N with
  | zero => intro x h; omega
  | succ N ihN =>
    intro x hs hwf hk he
    obtain ⟨op, v, ix, args⟩ := x
    simp only [wfE] at hwf
    obtain ⟨hform, hwf⟩ := hwf
    obtain ⟨ha, hb, -, hd⟩ := formHead_zero hform
    have hch : ∀ e ∈ args, kindR e ≠ 0 → (evalR vals e).2 = true → (-1073741824 ≤ (evalR vals e).1 ∧ (evalR vals e).1 ≤ 1073741824) ∧ (kindR e = 2 → (evalR vals e).1 = 0 ∨ (evalR vals e).1 = 1) := by
      intro e hm
      have := List.sizeOf_lt_of_mem hm
      simp only [Ex.mk.sizeOf_spec] at hs
      exact ihN e (by omega) (wfEs_mem hwf e hm)
    simp only [kindR] at hk ⊢
    cases hks : kindRs args with
    | none => rw [hks] at hk; exact absurd rfl hk
    | some ks =>
      rw [hks] at hk
      simp only at hk ⊢
      have hkl := kindRs_len hks
      simp only [evalR] at he ⊢
      by_cases h0 : op = 0
      · subst h0
        simp only [if_pos] at he ⊢
        refine ⟨by omega, fun h => ?_⟩
        simp [kindOp] at h
      rw [if_neg h0] at he ⊢
      by_cases h1 : op = 1
      · subst h1
        simp only [if_pos] at he ⊢
        refine ⟨?_, fun h => by simp [kindOp] at h⟩
        have hix : ix.toNat < vals.length := by omega
        have := hv _ (List.getElem_mem hix)
        rw [List.getD_eq_getElem?_getD, List.getElem?_eq_getElem hix]
        simp only [Option.getD_some]
        omega
      rw [if_neg h1] at he ⊢
      by_cases h13 : op = 13
      · subst h13
        simp only [if_pos] at he ⊢
        have h3 : args.length = 3 := by have : (args.length : Int) = 3 := hb; omega
        obtain ⟨hk0, hk12, hkr⟩ := kindOp_ite hk
        match args, h3 with
        | [c, a, b], _ =>
          have hnz := kindRs_nz hks
          have hkk : ks = [kindR c, kindR a, kindR b] := by
            simp only [kindRs, if_neg (hnz c (by simp)), if_neg (hnz a (by simp)), if_neg (hnz b (by simp)), Option.map_some, Option.some.injEq] at hks
            exact hks.symm
          subst hkk
          simp only [List.getD_cons_zero, List.getD_cons_succ] at hk0 hk12 hkr
          rw [hkr]
          simp only [evalI] at he ⊢
          by_cases hc : (evalR vals c).2 = false
          · rw [if_pos hc] at he; cases he
          rw [if_neg hc] at he ⊢
          split at he
          · rename_i h4
            rw [if_pos h4]
            exact hch a (by simp) (hnz a (by simp)) he
          · rename_i h4
            rw [if_neg h4, hk12]
            exact hch b (by simp) (hnz b (by simp)) he
      rw [if_neg h13] at he ⊢
      cases hl : evalRs vals args with
      | none => rw [hl] at he; cases he
      | some l =>
        rw [hl] at he
        simp only at he ⊢
        have hty : Ty2 l ks := by
          clear hb hform hk hd he hs hkl
          induction args generalizing l ks with
          | nil =>
            simp only [evalRs, Option.some.injEq] at hl
            simp only [kindRs, Option.some.injEq] at hks
            subst hl; subst hks
            trivial
          | cons e r ih =>
            simp only [evalRs] at hl
            simp only [kindRs] at hks
            split at hl
            · cases hl
            rename_i e1
            split at hks
            · cases hks
            rename_i e2
            cases hk1 : kindRs r with
            | none => simp [hk1] at hks
            | some ks' =>
              cases hl1 : evalRs vals r with
              | none => simp [hl1] at hl
              | some l' =>
                simp only [hk1, Option.map_some, Option.some.injEq] at hks
                simp only [hl1, Option.map_some, Option.some.injEq] at hl
                subst hks; subst hl
                have := hch e (by simp) e2 (by simpa using e1)
                exact ⟨this.1, this.2, ih (by simp only [wfEs] at hwf; exact hwf.2) (fun x hx => hch x (by simp [hx])) ks' hk1 l' hl1⟩
        exact ⟨largeB_false he, kind_app ha h0 h1 h13 (by rw [hkl]; exact hb) hty⟩
end
end Go.AI


namespace Go.AI
open Go.Proofs
set_option maxRecDepth 20000
theorem evalRs_take {vals : List Int} {args : List Ex} {i : Nat} {l : List Int} (h : i < args.length) (hl : evalRs vals (args.take i) = some l) : evalRs vals (args.take (i + 1)) = if (evalR vals args[i]).2 = false then none else some (l ++ [(evalR vals args[i]).1]) := by
  induction args generalizing i l with
  | nil => simp at h
  | cons e r ih =>
    cases i with
    | zero =>
      simp only [List.take_zero, evalRs, Option.some.injEq] at hl
      subst hl
      simp [evalRs]
    | succ i =>
      simp only [List.take_succ_cons, evalRs] at hl ⊢
      split at hl
      · cases hl
      · rename_i h1
        rw [if_neg h1]
        cases hk : evalRs vals (r.take i) with
        | none => simp [hk] at hl
        | some l' =>
          simp only [hk, Option.map_some, Option.some.injEq] at hl
          subst hl
          rw [ih (by simpa using h) hk]
          simp only [List.getElem_cons_succ]
          split <;> simp
theorem evalRs_none {vals : List Int} {args : List Ex} {i : Nat} (hl : evalRs vals (args.take i) = none) : evalRs vals args = none := by
  induction args generalizing i with
  | nil => simpa using hl
  | cons e r ih =>
    cases i with
    | zero => simp [evalRs] at hl
    | succ i =>
      simp only [List.take_succ_cons, evalRs] at hl ⊢
      split at hl
      · rename_i h1; rw [if_pos h1]
      · rename_i h1
        rw [if_neg h1]
        cases hk : evalRs vals (r.take i) with
        | none => rw [ih hk]; rfl
        | some l => simp [hk] at hl
theorem app87 (O : List Heap) {op : Int} {l ks : List Int} (ha : (arity op).2 = true) (h0 : op ≠ 0) (h1 : op ≠ 1) (h13 : op ≠ 13) (hlen : (ks.length : Int) = (arity op).1) (ht : Ty2 l ks) (hk : kindOp op ks ≠ 0) : ASpec Tryz.prog 116 [ii op, ints l] O (ii (applyR op l)) [] O := by
  have two : (ks.length : Int) = 2 → ∃ a b k1 k2, l = [a, b] ∧ ks = [k1, k2] := by
    intro h
    match ks, l, ht with
    | [], _, _ => simp at h
    | [_], _, _ => simp at h
    | [k1, k2], [a, b], _ => exact ⟨a, b, k1, k2, rfl, rfl⟩
    | _ :: _ :: _ :: _, _, _ => simp at h; omega
  have one : (ks.length : Int) = 1 → ∃ a k1, l = [a] ∧ ks = [k1] := by
    intro h
    match ks, l, ht with
    | [], _, _ => simp at h
    | [k1], [a], _ => exact ⟨a, k1, rfl, rfl⟩
    | _ :: _ :: _, _, _ => simp at h; omega
  have c2 : (op = 2 ∨ op = 3 ∨ op = 4 ∨ op = 6 ∨ op = 7 ∨ op = 8 ∨ op = 9 ∨ op = 11 ∨ op = 12) → ASpec Tryz.prog 116 [ii op, ints l] O (ii (applyR op l)) [] O := by
    intro h
    have h2 : (arity op).1 = 2 := by rcases h with rfl | rfl | rfl | rfl | rfl | rfl | rfl | rfl | rfl <;> rfl
    obtain ⟨a, b, k1, k2, rfl, rfl⟩ := two (by rw [hlen, h2])
    obtain ⟨a1, a2, b1, b2, -⟩ := ht
    refine apply2 O op a b h a1 b1 fun hop => ?_
    unfold kindOp at hk
    rw [if_neg (by omega), if_neg (by omega), if_neg (by omega), if_pos (by omega)] at hk
    split at hk
    · rename_i hall
      simp only [List.all_cons, List.all_nil, Bool.and_true, Bool.and_eq_true, decide_eq_true_eq] at hall
      exact ⟨a2 hall.1, b2 hall.2⟩
    · exact absurd rfl hk
  have c1 : (op = 5 ∨ op = 10) → ASpec Tryz.prog 116 [ii op, ints l] O (ii (applyR op l)) [] O := by
    intro h
    have h2 : (arity op).1 = 1 := by rcases h with rfl | rfl <;> rfl
    obtain ⟨a, k1, rfl, rfl⟩ := one (by rw [hlen, h2])
    exact apply1 O op a h ht.1
  rcases arity_cases ha with h | h | h | h | h
  · omega
  · rcases h with h | h | h | h
    · exact c2 (by omega)
    · exact c2 (by omega)
    · exact c2 (by omega)
    · exact c1 (by omega)
  · exact c2 (by omega)
  · rcases h with h | h | h
    · exact c1 (by omega)
    · exact c2 (by omega)
    · exact c2 (by omega)
  · omega
theorem ty2_of {n : Int} {vals : List Int} (hn : (vals.length : Int) = n) (hv : ∀ x ∈ vals, -65536 ≤ x ∧ x ≤ 65536) : ∀ (args : List Ex) (l ks : List Int), wfEs n args → evalRs vals args = some l → kindRs args = some ks → Ty2 l ks
  | [], l, ks, _, hl, hks => by
    simp only [evalRs, Option.some.injEq] at hl
    simp only [kindRs, Option.some.injEq] at hks
    subst hl; subst hks
    trivial
  | e :: r, l, ks, hwf, hl, hks => by
    simp only [evalRs] at hl
    simp only [kindRs] at hks
    split at hl
    · cases hl
    rename_i e1
    split at hks
    · cases hks
    rename_i e2
    cases hk1 : kindRs r with
    | none => simp [hk1] at hks
    | some ks' =>
      cases hl1 : evalRs vals r with
      | none => simp [hl1] at hl
      | some l' =>
        simp only [hk1, Option.map_some, Option.some.injEq] at hks
        simp only [hl1, Option.map_some, Option.some.injEq] at hl
        subst hks; subst hl
        simp only [wfEs] at hwf
        have := eval_ty hn hv _ e (Nat.lt_succ_self _) hwf.1 e2 (by simpa using e1)
        exact ⟨this.1, this.2, ty2_of hn hv r l' ks' hwf.2 hl1 hk1⟩
theorem evaluate71 {n : Int} {vals : List Int} (hn : (vals.length : Int) = n) (hv : ∀ x ∈ vals, -65536 ≤ x ∧ x ≤ 65536) : ∀ (N : Nat) (x : Ex), SizeOf.sizeOf x < N → wfE n x → kindR x ≠ 0 → ∀ O,
    ASpec Tryz.prog 95 [exD x, ints vals] O (.tup [ii (evalR vals x).1, bb (evalR vals x).2]) [] O := by
  intro N
  induction N with
  | zero => intro x h; omega
  | succ N ihN =>
    intro x hs hwf hk O
    have hty := eval_ty hn hv _ x (Nat.lt_succ_self _) hwf hk
    obtain ⟨op, v, ix, args⟩ := x
    simp only [wfE] at hwf
    obtain ⟨hform, hwf⟩ := hwf
    obtain ⟨ha, hb, -, hd⟩ := formHead_zero hform
    have hch : ∀ e ∈ args, kindR e ≠ 0 → ∀ O, ASpec Tryz.prog 95 [exD e, ints vals] O (.tup [ii (evalR vals e).1, bb (evalR vals e).2]) [] O := by
      intro e hm hke O
      have := List.sizeOf_lt_of_mem hm
      simp only [Ex.mk.sizeOf_spec] at hs
      exact ihN e (by omega) (wfEs_mem hwf e hm) hke O
    have hlen3 : args.length ≤ 3 := by have := arity_le op; omega
    have hlen : args.length ≤ max63 := by simp only [max63]; omega
    clear ihN hs hform
    simp only [kindR] at hk
    cases hks : kindRs args with
    | none => rw [hks] at hk; exact absurd rfl hk
    | some ks =>
      rw [hks] at hk
      simp only at hk
      have hkl := kindRs_len hks
      have hnz := kindRs_nz hks
      simp only [evalR] at *
      refine aspec_stop [20] Tk Tryz.func95 rfl Tryz.call95 Tryz.ntmps95 (Nat.le_of_ble_eq_true rfl) fun E => ?_
      refine g_run Tk Tryz.func95 ?_
      first | refine g_cnd Tk Tryz.func95 rfl (fun h0 => ?_) (fun h0 => ?_) | refine g_know Tk Tryz.func95 rfl (fun h0 => ?_) (fun h0 => ?_) | refine s_know Tk (fun h0 => ?_) (fun h0 => ?_)
      · have h0 := beqT h0
        subst h0
        rw [if_pos rfl]
        refine g_ret Tk (r := .tup [ii v, bb true]) rfl rfl rfl trivial rfl rfl ?_
        rfl
      have h0 := beqF h0
      rw [if_neg h0] at *
      first | refine g_cnd Tk Tryz.func95 rfl (fun h1 => ?_) (fun h1 => ?_) | refine g_know Tk Tryz.func95 rfl (fun h1 => ?_) (fun h1 => ?_) | refine s_know Tk (fun h1 => ?_) (fun h1 => ?_)
      · have h1 := beqT h1
        subst h1
        rw [if_pos rfl]
        have hix : ix.toNat < vals.length := by omega
        first | refine g_need Tk Tryz.func95 (by omega) ?_ | refine s_need Tk (by omega) ?_
        first | refine g_elem Tk Tryz.func95 (get_mapI (f := fun x => [vi x]) (i := ix.toNat) (by omega) hix) ?_ | refine s_elem Tk (get_mapI (f := fun x => [vi x]) (i := ix.toNat) (by omega) hix) ?_
        refine g_ret Tk (r := .tup [ii _, bb true]) rfl rfl rfl trivial rfl rfl ?_
        rw [List.getD_eq_getElem?_getD, List.getElem?_eq_getElem hix]
        rfl
      have h1 := beqF h1
      rw [if_neg h1] at *
      first | refine g_cnd Tk Tryz.func95 rfl (fun h13 => ?_) (fun h13 => ?_) | refine g_know Tk Tryz.func95 rfl (fun h13 => ?_) (fun h13 => ?_) | refine s_know Tk (fun h13 => ?_) (fun h13 => ?_)
      · have h13 := beqT h13
        subst h13
        rw [if_pos rfl] at *
        have h3 : args.length = 3 := by have : (args.length : Int) = 3 := hb; omega
        obtain ⟨hk0, hk12, hkr⟩ := kindOp_ite hk
        match args, h3 with
        | [c, a, b], _ =>
          have hkk : ks = [kindR c, kindR a, kindR b] := by
            simp only [kindRs, if_neg (hnz c (by simp)), if_neg (hnz a (by simp)), if_neg (hnz b (by simp)), Option.map_some, Option.some.injEq] at hks
            exact hks.symm
          subst hkk
          simp only [List.getD_cons_zero, List.getD_cons_succ] at hk0 hk12 hkr
          simp only [evalI]
          have hc1 := eval_ty hn hv _ c (Nat.lt_succ_self _) (by simp only [wfEs] at hwf; exact hwf.1) (hnz c (by simp))
          have sc := hch c (by simp) (hnz c (by simp))
          have sa := hch a (by simp) (hnz a (by simp))
          have sb := hch b (by simp) (hnz b (by simp))
          clear hch hty hwf hnz
          obtain ⟨co, cv, ci, ca⟩ := c
          obtain ⟨ao, av, ai, aa⟩ := a
          obtain ⟨bo, bv, bi, ba⟩ := b
          generalize evalR vals (.mk co cv ci ca) = rc at *
          obtain ⟨r1, r2⟩ := rc
          first | refine g_need Tk Tryz.func95 (by simp) ?_ | refine s_need Tk (by simp) ?_
          first | refine g_elem Tk Tryz.func95 (rfl) ?_ | refine s_elem Tk (rfl) ?_
          first | refine g_call Tk Tryz.func95 (sc _) rfl rfl rfl rfl rfl ?_ | refine s_call Tk (sc _) rfl rfl rfl ?_
          first | refine g_cnd Tk Tryz.func95 rfl (fun h2 => ?_) (fun h2 => ?_) | refine g_know Tk Tryz.func95 rfl (fun h2 => ?_) (fun h2 => ?_) | refine s_know Tk (fun h2 => ?_) (fun h2 => ?_)
          · have h2 : r2 = false := notT h2
            subst h2
            rw [if_pos rfl]
            refine g_ret Tk (r := .tup [ii 0, bb false]) rfl rfl rfl trivial rfl rfl ?_
            rfl
          · have h2 : r2 = true := notF h2
            subst h2
            rw [if_neg (by simp)]
            rcases (hc1 rfl).2 hk0 with h4 | h4
            · simp only at h4
              subst h4
              rw [if_neg (by simp)]
              first | refine g_need Tk Tryz.func95 (by exact ⟨by decide, by simp [w64]⟩) ?_ | refine s_need Tk (by exact ⟨by decide, by simp [w64]⟩) ?_
              first | refine g_elem Tk Tryz.func95 (rfl) ?_ | refine s_elem Tk (rfl) ?_
              first | refine g_call Tk Tryz.func95 (sb _) rfl rfl rfl rfl rfl ?_ | refine s_call Tk (sb _) rfl rfl rfl ?_
              refine g_ret Tk (r := .tup [ii _, bb _]) rfl rfl rfl trivial rfl rfl ?_
              rfl
            · simp only at h4
              subst h4
              rw [if_pos rfl]
              first | refine g_need Tk Tryz.func95 (by exact ⟨by decide, by simp [w64]⟩) ?_ | refine s_need Tk (by exact ⟨by decide, by simp [w64]⟩) ?_
              first | refine g_elem Tk Tryz.func95 (rfl) ?_ | refine s_elem Tk (rfl) ?_
              first | refine g_call Tk Tryz.func95 (sa _) rfl rfl rfl rfl rfl ?_ | refine s_call Tk (sa _) rfl rfl rfl ?_
              refine g_ret Tk (r := .tup [ii _, bb _]) rfl rfl rfl trivial rfl rfl ?_
              rfl
      have h13 := beqF h13
      rw [if_neg h13] at *
      apply join_q (P := fun l => evalRs vals args = some l) (s6 := fun l => { σ := [(2, .own 0 2 0 0), (8, ints l)], S := [(2, .box [ii op, ii v, ii ix, exs args])] :: O, n := 78 })
      · intro J
        refine g_loop ?_
        refine rch_wk (wk_nil 8 68 3 1 rfl rfl rfl) ?_
        refine rch_loop2 (fun x : Nat × List Int => [(1, ints vals), (2, .own 0 2 0 0), (8, .osl 0 68), (51, exs args), (52, ii args.length), (53, ii x.1)]) (fun x => [(68, oints x.2), (2, .box [ii op, ii v, ii ix, exs args])]) (fun _ => O) 78
          (fun x => x.1 ≤ args.length ∧ evalRs vals (args.take x.1) = some x.2) (fun x => args.length - x.1) (0, []) ⟨Nat.zero_le _, rfl⟩ ⟨rfl, rfl, rfl, rfl, rfl, rfl, trivial⟩ rfl ⟨rfl, rfl, trivial⟩ rfl rfl ?_
        rintro ⟨i, l⟩ ⟨hi, hno⟩ ih
        simp only at hi hno
        refine g_run Tk Tryz.func95 ?_
        first | refine g_cnd Tk Tryz.func95 rfl (fun h5 => ?_) (fun h5 => ?_) | refine g_know Tk Tryz.func95 rfl (fun h5 => ?_) (fun h5 => ?_) | refine s_know Tk (fun h5 => ?_) (fun h5 => ?_)
        · have h5 : i < args.length := by simpa using h5
          have hm := List.getElem_mem h5
          have hg := exIs_get h5
          have ht := evalRs_take h5 hno
          have hll := evalRs_len hno
          simp only [List.length_take, Nat.min_eq_left hi] at hll
          generalize args[i] = e at hm hg ht
          have hce := fun O => hch e hm (hnz e hm) O
          obtain ⟨eo, ev, ei, ea⟩ := e
          simp only [exI] at hg
          first | refine g_need Tk Tryz.func95 (by omega) ?_ | refine s_need Tk (by omega) ?_
          first | refine g_elem Tk Tryz.func95 (hg) ?_ | refine s_elem Tk (hg) ?_
          first | refine g_call Tk Tryz.func95 (hce _) rfl rfl rfl rfl rfl ?_ | refine s_call Tk (hce _) rfl rfl rfl ?_
          generalize evalR vals (.mk eo ev ei ea) = k at ht
          first | refine g_cnd Tk Tryz.func95 rfl (fun h6 => ?_) (fun h6 => ?_) | refine g_know Tk Tryz.func95 rfl (fun h6 => ?_) (fun h6 => ?_) | refine s_know Tk (fun h6 => ?_) (fun h6 => ?_)
          · have h6 := notT h6
            rw [if_pos h6] at ht
            rw [evalRs_none ht]
            refine g_ret Tk (r := .tup [ii 0, bb false]) rfl rfl rfl trivial rfl rfl ?_
            rfl
          · have h6 := notF h6
            rw [if_neg (by rw [h6]; simp)] at ht
            first | refine g_need Tk Tryz.func95 (by exact ⟨by show (l.length + 1) * 8 ≤ 140737488355328; omega, by show l.length + 1 ≤ 9223372036854775807; omega⟩) ?_ | refine s_need Tk (by exact ⟨by show (l.length + 1) * 8 ≤ 140737488355328; omega, by show l.length + 1 ≤ 9223372036854775807; omega⟩) ?_
            refine g_loop ?_
            refine ih (i + 1, l ++ [k.1]) _ _ ⟨h5, ht⟩ (by simp only; omega) ⟨rfl, rfl, rfl, rfl, rfl, congrArg ii (wsucc h5 hlen), trivial⟩ rfl ⟨congrArg some (oints_app l k.1), rfl, trivial⟩ rfl rfl
        · have h5 : args.length ≤ i := by simpa using h5
          rw [List.take_of_length_le h5] at hno
          refine g_stop ?_
          refine rch_wk (wk_freeze 68 rfl rfl) ?_
          refine rch_cut2 (l := [(2, .own 0 2 0 0), (8, ints l)]) (Hv := [(2, .box [ii op, ii v, ii ix, exs args])]) ⟨rfl, rfl, trivial⟩ rfl ⟨rfl, trivial⟩ rfl rfl (J l hno)
      · intro l hl
        have ht := ty2_of hn hv args l ks hwf hl hks
        rw [hl]
        refine g_run Tk Tryz.func95 ?_
        refine g_go Tk Tryz.func95 ?_
        first | refine g_call Tk Tryz.func95 (app87 _ ha h0 h1 h13 (by rw [hkl]; exact hb) ht hk) rfl rfl rfl rfl rfl ?_ | refine s_call Tk (app87 _ ha h0 h1 h13 (by rw [hkl]; exact hb) ht hk) rfl rfl rfl ?_
        first | refine g_call Tk Tryz.func95 (large70k _ (applyR op l) 1073741824 (by decide) (by decide)) rfl rfl rfl rfl rfl ?_ | refine s_call Tk (large70k _ (applyR op l) 1073741824 (by decide) (by decide)) rfl rfl rfl ?_
        refine g_ret Tk (r := .tup [ii _, bb _]) rfl rfl rfl trivial rfl rfl ?_
        rfl
/-- Evaluate: the value, or the error. -/
def evalX (x : Ex) (vals : List Int) : Int × Int :=
  if (checkX x vals.length).2 ≠ 0 then (0, (checkX x vals.length).2) else
  if vals.any (fun n => largeB n 65536) then (0, 2) else
  if (evalR vals x).2 = false then (0, 17) else ((evalR vals x).1, 0)
theorem big69' (O : List Heap) (a : Int) : ASpec Tryz.prog 94 [ii a] O (bb (largeB a 65536)) [] O := by
  refine aspec_intro Tk Tryz.func94 rfl Tryz.call94 Tryz.ntmps94 (Nat.le_of_ble_eq_true rfl) fun E => ?_
  refine g_run Tk Tryz.func94 ?_
  first | refine g_call Tk Tryz.func94 (large70k _ a 65536 (by decide) (by decide)) rfl rfl rfl rfl rfl ?_ | refine s_call Tk (large70k _ a 65536 (by decide) (by decide)) rfl rfl rfl ?_
  refine g_ret Tk (r := bb _) rfl rfl rfl trivial rfl rfl ?_
  rfl
theorem indexFunc86p (O : List Heap) (l : List Int) (f : Nat) (p : Int → Bool) (hl : l.length ≤ max63) (hp : ∀ x ∈ l, ∀ O, ASpec Tryz.prog f [ii x] O (bb (p x)) [] O) :
    ASpec Tryz.prog 115 [ints l, .fn (.func f) [] []] O (ii (findIx p l 0)) [] O := by
  refine aspec_intro Tk Tryz.func115 rfl Tryz.call115 Tryz.ntmps115 (Nat.le_of_ble_eq_true rfl) fun E => ?_
  refine g_run Tk Tryz.func115 ?_
  refine g_loop ?_
  refine rch_loop_ind (fun i : Nat => [(0, ints l), (1, .fn (.func f) [] []), (6, ints l), (7, ii l.length), (8, ii i)]) (fun _ => [] :: O) 19 (fun i => i ≤ l.length ∧ findIx p l 0 = findIx p (l.drop i) i) (fun i => l.length - i) 0 ⟨Nat.zero_le _, rfl⟩ ⟨rfl, rfl, rfl, rfl, rfl, trivial⟩ rfl rfl ?_
  intro i ⟨hi, hno⟩ ih
  rw [hno]
  rw [hno] at ih
  refine g_run Tk Tryz.func115 ?_
  first | refine g_cnd Tk Tryz.func115 rfl (fun h1 => ?_) (fun h1 => ?_) | refine g_know Tk Tryz.func115 rfl (fun h1 => ?_) (fun h1 => ?_) | refine s_know Tk (fun h1 => ?_) (fun h1 => ?_)
  · have h1 : i < l.length := by simpa using h1
    have hd : l.drop i = l[i] :: l.drop (i + 1) := (List.drop_eq_getElem_cons h1)
    first | refine g_need Tk Tryz.func115 (by omega) ?_ | refine s_need Tk (by omega) ?_
    first | refine g_elem Tk Tryz.func115 (get_mapZ h1) ?_ | refine s_elem Tk (get_mapZ h1) ?_
    first | refine g_call Tk Tryz.func115 (hp l[i] (List.getElem_mem h1) _) rfl rfl rfl rfl rfl ?_ | refine s_call Tk (hp l[i] (List.getElem_mem h1) _) rfl rfl rfl ?_
    first | refine g_cnd Tk Tryz.func115 rfl (fun h2 => ?_) (fun h2 => ?_) | refine g_know Tk Tryz.func115 rfl (fun h2 => ?_) (fun h2 => ?_) | refine s_know Tk (fun h2 => ?_) (fun h2 => ?_)
    · refine g_ret Tk (r := ii _) rfl rfl rfl trivial rfl rfl ?_
      rw [hd]
      simp only [findIx]
      rw [if_pos h2]
    · refine g_loop ?_
      refine ih (i + 1) _ ⟨h1, ?_⟩ (by omega) ⟨rfl, rfl, rfl, rfl, congrArg ii (wsucc h1 hl), trivial⟩ rfl rfl
      rw [hd]
      simp only [findIx]
      rw [if_neg (by rw [h2]; simp)]
  · have h1 : l.length ≤ i := by simpa using h1
    refine g_ret Tk (r := ii _) rfl rfl rfl trivial rfl rfl ?_
    rw [List.drop_eq_nil_of_le h1]
    rfl
theorem containsFunc68p (O : List Heap) (l : List Int) (f : Nat) (p : Int → Bool) (hl : l.length ≤ max63) (hp : ∀ x ∈ l, ∀ O, ASpec Tryz.prog f [ii x] O (bb (p x)) [] O) :
    ASpec Tryz.prog 93 [ints l, .fn (.func f) [] []] O (bb (l.any p)) [] O := by
  refine aspec_intro Tk Tryz.func93 rfl Tryz.call93 Tryz.ntmps93 (Nat.le_of_ble_eq_true rfl) fun E => ?_
  refine g_run Tk Tryz.func93 ?_
  first | refine g_call Tk Tryz.func93 (indexFunc86p _ l f p hl hp) rfl rfl rfl rfl rfl ?_ | refine s_call Tk (indexFunc86p _ l f p hl hp) rfl rfl rfl ?_
  refine g_ret Tk (r := bb _) rfl rfl rfl trivial rfl rfl ?_
  exact congrArg bb (findIx_any p l 0)
theorem checkX_ok {x : Ex} {n : Int} (h : (checkX x n).2 = 0) : (formR x n 1 0).1 = 0 ∧ kindR x ≠ 0 ∧ 0 ≤ n ∧ n ≤ 16 ∧ (checkX x n).1 = kindR x := by
  unfold checkX at h ⊢
  by_cases h1 : n < 0 ∨ n > 16
  · rw [if_pos h1] at h; cases h
  rw [if_neg h1] at h ⊢
  by_cases h2 : (formR x n 1 0).1 ≠ 0
  · rw [if_pos h2] at h; exact absurd h h2
  rw [if_neg h2] at h ⊢
  by_cases h3 : kindR x = 0
  · rw [if_pos h3] at h; cases h
  rw [if_neg h3]
  exact ⟨by simpa using h2, h3, by omega, by omega, rfl⟩
theorem any_large {vals : List Int} (h : vals.any (fun n => largeB n 65536) = false) : ∀ x ∈ vals, -65536 ≤ x ∧ x ≤ 65536 := by
  intro x hx
  rw [List.any_eq_false] at h
  have := h x hx
  simp [largeB] at this
  omega
theorem evaluate51 (O : List Heap) (x : Ex) (vals : List Int) (hok : exOk x) (hl : vals.length ≤ max63) : ASpec Tryz.prog 62 [exD x, ints vals] O (.tup [ii (evalX x vals).1, ii (evalX x vals).2]) [] O := by
  have hc := fun O => check67 O x vals.length hok
  have hco := @checkX_ok x vals.length
  have hwf := formR_wf x vals.length 1 0
  have hev := fun hv hw hk O => evaluate71 (n := vals.length) (vals := vals) rfl hv _ x (Nat.lt_succ_self _) hw hk O
  unfold evalX
  obtain ⟨op, v, ix, args⟩ := x
  generalize checkX (.mk op v ix args) vals.length = R at *
  refine aspec_intro Tk Tryz.func62 rfl Tryz.call62 Tryz.ntmps62 (Nat.le_of_ble_eq_true rfl) fun E => ?_
  refine g_run Tk Tryz.func62 ?_
  first | refine g_call Tk Tryz.func62 (hc _) rfl rfl rfl rfl rfl ?_ | refine s_call Tk (hc _) rfl rfl rfl ?_
  first | refine g_cnd Tk Tryz.func62 rfl (fun h1 => ?_) (fun h1 => ?_) | refine g_know Tk Tryz.func62 rfl (fun h1 => ?_) (fun h1 => ?_) | refine s_know Tk (fun h1 => ?_) (fun h1 => ?_)
  · have h1 := bneT h1
    rw [if_pos h1]
    refine g_ret Tk (r := .tup [ii 0, ii _]) rfl rfl rfl trivial rfl rfl ?_
    rfl
  · have h1 := bneF h1
    obtain ⟨c1, c2, -, -, -⟩ := hco h1
    rw [if_neg (by simpa using h1)]
    first | refine g_call Tk Tryz.func62 (containsFunc68p _ vals 94 (fun n => largeB n 65536) hl (fun x _ O => big69' O x)) rfl rfl rfl rfl rfl ?_ | refine s_call Tk (containsFunc68p _ vals 94 (fun n => largeB n 65536) hl (fun x _ O => big69' O x)) rfl rfl rfl ?_
    first | refine g_cnd Tk Tryz.func62 rfl (fun h2 => ?_) (fun h2 => ?_) | refine g_know Tk Tryz.func62 rfl (fun h2 => ?_) (fun h2 => ?_) | refine s_know Tk (fun h2 => ?_) (fun h2 => ?_)
    · rw [if_pos h2]
      refine g_ret Tk (r := .tup [ii 0, ii 2]) rfl rfl rfl trivial rfl rfl ?_
      rfl
    · rw [if_neg (by rw [h2]; simp)]
      first | refine g_call Tk Tryz.func62 (hev (any_large h2) (hwf c1) c2 _) rfl rfl rfl rfl rfl ?_ | refine s_call Tk (hev (any_large h2) (hwf c1) c2 _) rfl rfl rfl ?_
      first | refine g_cnd Tk Tryz.func62 rfl (fun h3 => ?_) (fun h3 => ?_) | refine g_know Tk Tryz.func62 rfl (fun h3 => ?_) (fun h3 => ?_) | refine s_know Tk (fun h3 => ?_) (fun h3 => ?_)
      · have h3 := notT h3
        rw [if_pos h3]
        refine g_ret Tk (r := .tup [ii 0, ii 17]) rfl rfl rfl trivial rfl rfl ?_
        rfl
      · have h3 := notF h3
        rw [if_neg (by rw [h3]; simp)]
        refine g_ret Tk (r := .tup [ii _, ii 0]) rfl rfl rfl trivial rfl rfl ?_
        rfl
end Go.AI


namespace Go.AI
open Go.Proofs
set_option maxRecDepth 20000
def Ex.op : Ex → Int | .mk o _ _ _ => o
def Ex.vl : Ex → Int | .mk _ v _ _ => v
def Ex.ix : Ex → Int | .mk _ _ i _ => i
def Ex.args : Ex → List Ex | .mk _ _ _ a => a
abbrev exA (x : Ex) : D := .agg [ii x.op, ii x.vl, ii x.ix, exs x.args]
theorem exD_eq (x : Ex) : exD x = exA x := by cases x; rfl
theorem exI_eq (x : Ex) : exI x = [vi x.op, vi x.vl, vi x.ix, .sl 4 x.args.length (exIs x.args)] := by cases x; simp [exI, Ex.op, Ex.vl, Ex.ix, Ex.args]
/-- An assignment. -/
structure Upd where
  v : Int
  x : Ex
abbrev updI (u : Upd) : List I := [vi u.v, vi u.x.op, vi u.x.vl, vi u.x.ix, .sl 4 u.x.args.length (exIs u.x.args)]
abbrev upds (l : List Upd) : D := .i (.sl 5 l.length (l.map updI))
/-- A move. -/
structure Mv where
  frm : Int
  ev : Int
  to : Int
  g : Ex
  us : List Upd
abbrev mvI (m : Mv) : List I := [vi m.frm, vi m.ev, vi m.to, vi m.g.op, vi m.g.vl, vi m.g.ix, .sl 4 m.g.args.length (exIs m.g.args), .sl 5 m.us.length (m.us.map updI)]
abbrev mvs (l : List Mv) : D := .i (.sl 8 l.length (l.map mvI))
/-- An extended automaton. -/
structure Ext where
  alpha : List Int
  locs : Int
  init : Int
  marked : List Int
  vars : List Vr
  moves : List Mv
abbrev extD (m : Ext) : D := .agg [ints m.alpha, ii m.locs, ii m.init, ints m.marked, vrs m.vars, mvs m.moves]
abbrev extC (m : Ext) : List D := [ints m.alpha, ii m.locs, ii m.init, ints m.marked, vrs m.vars, mvs m.moves]
structure Sta where
  loc : Int
  vals : List Int
abbrev staD (s : Sta) : D := .agg [ii s.loc, ints s.vals]
abbrev staI (s : Sta) : List I := [vi s.loc, intsI s.vals]
def mvOk (x : Mv) : Prop := exOk x.g ∧ x.us.length ≤ max63 ∧ ∀ u ∈ x.us, exOk u.x
structure extOk (m : Ext) : Prop where
  al : m.alpha.length ≤ max63
  ma : m.marked.length ≤ max63
  va : m.vars.length ≤ max63
  na : ∀ v ∈ m.vars, v.name.size ≤ max63
  mo : m.moves.length ≤ max63
  mv : ∀ x ∈ m.moves, mvOk x
theorem check67A (O : List Heap) (x : Ex) (n : Int) (hok : exOk x) : ASpec Tryz.prog 73 [exA x, ii n] O (.tup [ii (checkX x n).1, ii (checkX x n).2]) [] O := by rw [← exD_eq]; exact check67 O x n hok
theorem checkExpr78A (O : List Heap) (x : Ex) (n k : Int) (hok : exOk x) : ASpec Tryz.prog 92 [exA x, ii n, ii k] O (ii (typedX x n k)) [] O := by rw [← exD_eq]; exact checkExpr78 O x n k hok
theorem evaluate51A (O : List Heap) (x : Ex) (vals : List Int) (hok : exOk x) (hl : vals.length ≤ max63) : ASpec Tryz.prog 62 [exA x, ints vals] O (.tup [ii (evalX x vals).1, ii (evalX x vals).2]) [] O := by rw [← exD_eq]; exact evaluate51 O x vals hok hl
/-- The first error of a list of assignments behind one. -/
def updErr (n : Int) : Option Int → List Upd → Int
  | _, [] => 0
  | prev, u :: r => if u.v < 0 ∨ u.v ≥ n then 2 else if prev.any (u.v ≤ ·) then 5 else if typedX u.x n 1 ≠ 0 then typedX u.x n 1 else updErr n (some u.v) r
/-- The first error of a move behind one. -/
def mvErr (m : Ext) (prev : Option Mv) (x : Mv) : Int :=
  if x.frm < 0 ∨ x.frm ≥ m.locs ∨ x.to < 0 ∨ x.to ≥ m.locs then 2 else
  if x.ev ∉ m.alpha then 9 else
  if prev.any (fun p => decide (x.frm < p.frm ∨ (x.frm = p.frm ∧ x.ev < p.ev))) then 5 else
  if typedX x.g m.vars.length 2 ≠ 0 then typedX x.g m.vars.length 2 else updErr m.vars.length none x.us
def prevL {α : Type} (l : List α) (i : Nat) : Option α := if i = 0 then none else l[i - 1]?
theorem wpred {i n : Nat} (h0 : 0 < i) (h : i < n) (hn : n ≤ max63) : IntKind.i64.wrap ((i : Int) - 1) = ((i - 1 : Nat) : Int) := by
  simp only [max63] at hn
  rw [w64 (by omega) (by omega)]
  omega
theorem prevL_pos {α : Type} {l : List α} {i : Nat} (h0 : 0 < i) (h : i < l.length) : prevL l i = some (l[i - 1]'(by omega)) := by
  unfold prevL
  rw [if_neg (by omega), List.getElem?_eq_getElem]
theorem checkMove61 (O : List Heap) (m : Ext) (i : Nat) (hi : i < m.moves.length) (hs : m.alpha.Pairwise (· < ·)) (hok : extOk m) : ASpec Tryz.prog 58 [extD m, ii i] O (ii (mvErr m (prevL m.moves i) m.moves[i])) [] O := by
  have hx := hok.mv _ (List.getElem_mem hi)
  have hg : (m.moves.map mvI)[(i : Int).toNat]? = some (mvI m.moves[i]) := get_mapZ hi
  generalize hR : mvErr m (prevL m.moves i) m.moves[i] = R
  have hp0 : 0 < i → prevL m.moves i = some (m.moves[i - 1]'(by omega)) := fun h => prevL_pos h hi
  have hgp : ∀ h : 0 < i, (m.moves.map mvI)[(IntKind.i64.wrap ((i : Int) - 1)).toNat]? = some (mvI (m.moves[i - 1]'(by omega))) := fun h => by
    rw [wpred h hi hok.mo]
    exact get_mapZ (by omega)
  have hpn : i = 0 → prevL m.moves i = none := fun h => by unfold prevL; rw [if_pos h]
  generalize m.moves[i] = x at *
  obtain ⟨xf, xe, xt, xg, xu⟩ := x
  obtain ⟨hx1, hx2, hx3⟩ := hx
  simp only at hx1 hx2 hx3
  have hmo := hok.mo
  unfold mvErr at hR
  simp only at hR
  refine aspec_stop [4, 6, 8, 18] Tk Tryz.func58 rfl Tryz.call58 Tryz.ntmps58 (Nat.le_of_ble_eq_true rfl) fun E => ?_
  refine g_run Tk Tryz.func58 ?_
  first | refine g_need Tk Tryz.func58 (by omega) ?_ | refine s_need Tk (by omega) ?_
  first | refine g_elem Tk Tryz.func58 (hg) ?_ | refine s_elem Tk (hg) ?_
  apply join_p (P := ¬ (xf < 0 ∨ xf ≥ m.locs ∨ xt < 0 ∨ xt ≥ m.locs)) (s6 := { σ := [(1, ii i), (2, .own 0 2 0 0), (5, .own 0 5 0 0)], S := [(5, .box [ii xf, ii xe, ii xt, ii xg.op, ii xg.vl, ii xg.ix, exs xg.args, upds xu]), (2, .box (extC m))] :: O, n := 138 })
  · intro J
    have bad : (xf < 0 ∨ xf ≥ m.locs ∨ xt < 0 ∨ xt ≥ m.locs) → R = 2 := fun h => by rw [← hR, if_pos h]
    first | refine g_cnd Tk Tryz.func58 rfl (fun h1 => ?_) (fun h1 => ?_) | refine g_know Tk Tryz.func58 rfl (fun h1 => ?_) (fun h1 => ?_) | refine s_know Tk (fun h1 => ?_) (fun h1 => ?_)
    · have := bad (.inl (of_decide_eq_true h1))
      subst this
      repeat (first | refine g_cnd Tk Tryz.func58 rfl (fun _ => ?_) (fun h => absurd h (by decide)) | refine g_cnd Tk Tryz.func58 rfl (fun h => absurd h (by decide)) (fun _ => ?_) | refine g_know Tk Tryz.func58 rfl (fun _ => ?_) (fun h => absurd h (by decide)) | refine g_know Tk Tryz.func58 rfl (fun h => absurd h (by decide)) (fun _ => ?_) | refine s_know Tk (fun _ => ?_) (fun h => absurd h (by decide)) | refine s_know Tk (fun h => absurd h (by decide)) (fun _ => ?_))
      refine g_ret Tk (r := ii 2) rfl rfl rfl trivial rfl rfl ?_
      rfl
    have h1 : ¬ xf < 0 := of_decide_eq_false h1
    first | refine g_cnd Tk Tryz.func58 rfl (fun h2 => ?_) (fun h2 => ?_) | refine g_know Tk Tryz.func58 rfl (fun h2 => ?_) (fun h2 => ?_) | refine s_know Tk (fun h2 => ?_) (fun h2 => ?_)
    · have := bad (.inr (.inl (of_decide_eq_true h2)))
      subst this
      repeat (first | refine g_cnd Tk Tryz.func58 rfl (fun _ => ?_) (fun h => absurd h (by decide)) | refine g_cnd Tk Tryz.func58 rfl (fun h => absurd h (by decide)) (fun _ => ?_) | refine g_know Tk Tryz.func58 rfl (fun _ => ?_) (fun h => absurd h (by decide)) | refine g_know Tk Tryz.func58 rfl (fun h => absurd h (by decide)) (fun _ => ?_) | refine s_know Tk (fun _ => ?_) (fun h => absurd h (by decide)) | refine s_know Tk (fun h => absurd h (by decide)) (fun _ => ?_))
      refine g_ret Tk (r := ii 2) rfl rfl rfl trivial rfl rfl ?_
      rfl
    have h2 : ¬ xf ≥ m.locs := of_decide_eq_false h2
    first | refine g_cnd Tk Tryz.func58 rfl (fun h3 => ?_) (fun h3 => ?_) | refine g_know Tk Tryz.func58 rfl (fun h3 => ?_) (fun h3 => ?_) | refine s_know Tk (fun h3 => ?_) (fun h3 => ?_)
    · have := bad (.inr (.inr (.inl (of_decide_eq_true h3))))
      subst this
      repeat (first | refine g_cnd Tk Tryz.func58 rfl (fun _ => ?_) (fun h => absurd h (by decide)) | refine g_cnd Tk Tryz.func58 rfl (fun h => absurd h (by decide)) (fun _ => ?_) | refine g_know Tk Tryz.func58 rfl (fun _ => ?_) (fun h => absurd h (by decide)) | refine g_know Tk Tryz.func58 rfl (fun h => absurd h (by decide)) (fun _ => ?_) | refine s_know Tk (fun _ => ?_) (fun h => absurd h (by decide)) | refine s_know Tk (fun h => absurd h (by decide)) (fun _ => ?_))
      refine g_ret Tk (r := ii 2) rfl rfl rfl trivial rfl rfl ?_
      rfl
    have h3 : ¬ xt < 0 := of_decide_eq_false h3
    first | refine g_cnd Tk Tryz.func58 rfl (fun h4 => ?_) (fun h4 => ?_) | refine g_know Tk Tryz.func58 rfl (fun h4 => ?_) (fun h4 => ?_) | refine s_know Tk (fun h4 => ?_) (fun h4 => ?_)
    · have := bad (.inr (.inr (.inr (of_decide_eq_true h4))))
      subst this
      refine g_ret Tk (r := ii 2) rfl rfl rfl trivial rfl rfl ?_
      rfl
    have h4 : ¬ xt ≥ m.locs := of_decide_eq_false h4
    refine g_stop ?_
    refine rch_meet (J (by omega)) ⟨rfl, rfl, rfl, trivial⟩ rfl ⟨rfl, rfl, trivial⟩ rfl rfl
  · intro hP
    rw [if_neg hP] at hR
    refine g_run Tk Tryz.func58 ?_
    refine g_go Tk Tryz.func58 ?_
    first | refine g_call Tk Tryz.func58 (contains49 _ m.alpha xe hok.al hs) rfl rfl rfl rfl rfl ?_ | refine s_call Tk (contains49 _ m.alpha xe hok.al hs) rfl rfl rfl ?_
    first | refine g_cnd Tk Tryz.func58 rfl (fun h1 => ?_) (fun h1 => ?_) | refine g_know Tk Tryz.func58 rfl (fun h1 => ?_) (fun h1 => ?_) | refine s_know Tk (fun h1 => ?_) (fun h1 => ?_)
    · have h1 : xe ∉ m.alpha := by simpa using h1
      rw [if_pos h1] at hR
      subst hR
      refine g_ret Tk (r := ii 9) rfl rfl rfl trivial rfl rfl ?_
      rfl
    have h1 : xe ∈ m.alpha := by simpa using h1
    rw [if_neg (by simpa using h1)] at hR
    apply join_p (P := R = if typedX xg m.vars.length 2 ≠ 0 then typedX xg m.vars.length 2 else updErr m.vars.length none xu) (s6 := { σ := [(1, ii i), (2, .own 0 2 0 0), (5, .own 0 5 0 0)], S := [(5, .box [ii xf, ii xe, ii xt, ii xg.op, ii xg.vl, ii xg.ix, exs xg.args, upds xu]), (2, .box (extC m))] :: O, n := 138 })
    · intro J
      refine g_stop ?_
      refine g_run Tk Tryz.func58 ?_
      refine g_go Tk Tryz.func58 ?_
      refine g_drawn Tk Tryz.func58 mixedT rfl ?_
      first | refine g_cnd Tk Tryz.func58 rfl (fun h2 => ?_) (fun h2 => ?_) | refine g_know Tk Tryz.func58 rfl (fun h2 => ?_) (fun h2 => ?_) | refine s_know Tk (fun h2 => ?_) (fun h2 => ?_)
      · have h2 : 0 < i := by have := of_decide_eq_true h2; omega
        have hgp := hgp h2
        have hp0 := hp0 h2
        have hw := wpred h2 hi hmo
        generalize m.moves[i - 1] = y at hgp hp0
        obtain ⟨yf, ye, yt, yg, yu⟩ := y
        rw [hp0] at hR
        simp only [Option.any_some] at hR
        first | refine g_need Tk Tryz.func58 (by rw [hw]; omega) ?_ | refine s_need Tk (by rw [hw]; omega) ?_
        first | refine g_elem Tk Tryz.func58 (hgp) ?_ | refine s_elem Tk (hgp) ?_
        first | refine g_cnd Tk Tryz.func58 rfl (fun h3 => ?_) (fun h3 => ?_) | refine g_know Tk Tryz.func58 rfl (fun h3 => ?_) (fun h3 => ?_) | refine s_know Tk (fun h3 => ?_) (fun h3 => ?_)
        · have h3 : xf < yf := of_decide_eq_true h3
          refine e_done Tk Tryz.func58 (by kernel_rfl) ?_
          repeat (first | refine g_cnd Tk Tryz.func58 rfl (fun _ => ?_) (fun h => absurd h (by decide)) | refine g_cnd Tk Tryz.func58 rfl (fun h => absurd h (by decide)) (fun _ => ?_) | refine g_know Tk Tryz.func58 rfl (fun _ => ?_) (fun h => absurd h (by decide)) | refine g_know Tk Tryz.func58 rfl (fun h => absurd h (by decide)) (fun _ => ?_) | refine s_know Tk (fun _ => ?_) (fun h => absurd h (by decide)) | refine s_know Tk (fun h => absurd h (by decide)) (fun _ => ?_))
          rw [if_pos (by simp [h3])] at hR
          subst hR
          refine g_ret Tk (r := ii 5) rfl rfl rfl trivial rfl rfl ?_
          rfl
        · have h3 : ¬ xf < yf := of_decide_eq_false h3
          first | refine g_need Tk Tryz.func58 (by rw [hw]; omega) ?_ | refine s_need Tk (by rw [hw]; omega) ?_
          first | refine g_elem Tk Tryz.func58 (hgp) ?_ | refine s_elem Tk (hgp) ?_
          first | refine g_cnd Tk Tryz.func58 rfl (fun h4 => ?_) (fun h4 => ?_) | refine g_know Tk Tryz.func58 rfl (fun h4 => ?_) (fun h4 => ?_) | refine s_know Tk (fun h4 => ?_) (fun h4 => ?_)
          · have h4 : xf = yf := beqT h4
            first | refine g_need Tk Tryz.func58 (by rw [hw]; omega) ?_ | refine s_need Tk (by rw [hw]; omega) ?_
            first | refine g_elem Tk Tryz.func58 (hgp) ?_ | refine s_elem Tk (hgp) ?_
            refine e_done Tk Tryz.func58 (by kernel_rfl) ?_
            first | refine g_cnd Tk Tryz.func58 rfl (fun h5 => ?_) (fun h5 => ?_) | refine g_know Tk Tryz.func58 rfl (fun h5 => ?_) (fun h5 => ?_) | refine s_know Tk (fun h5 => ?_) (fun h5 => ?_)
            · have h5 : xe < ye := of_decide_eq_true h5
              rw [if_pos (by simp [h4, h5])] at hR
              subst hR
              refine g_ret Tk (r := ii 5) rfl rfl rfl trivial rfl rfl ?_
              rfl
            · have h5 : ¬ xe < ye := of_decide_eq_false h5
              rw [if_neg (by simp; omega)] at hR
              refine g_stop ?_
              refine rch_meet (J hR.symm) ⟨rfl, rfl, rfl, trivial⟩ rfl ⟨rfl, rfl, trivial⟩ rfl rfl
          · have h4 : xf ≠ yf := beqF h4
            refine e_done Tk Tryz.func58 (by kernel_rfl) ?_
            repeat (first | refine g_cnd Tk Tryz.func58 rfl (fun _ => ?_) (fun h => absurd h (by decide)) | refine g_cnd Tk Tryz.func58 rfl (fun h => absurd h (by decide)) (fun _ => ?_) | refine g_know Tk Tryz.func58 rfl (fun _ => ?_) (fun h => absurd h (by decide)) | refine g_know Tk Tryz.func58 rfl (fun h => absurd h (by decide)) (fun _ => ?_) | refine s_know Tk (fun _ => ?_) (fun h => absurd h (by decide)) | refine s_know Tk (fun h => absurd h (by decide)) (fun _ => ?_))
            rw [if_neg (by simp; omega)] at hR
            refine g_stop ?_
            refine rch_meet (J hR.symm) ⟨rfl, rfl, rfl, trivial⟩ rfl ⟨rfl, rfl, trivial⟩ rfl rfl
      · have h2 : i = 0 := by have := of_decide_eq_false h2; omega
        refine e_done Tk Tryz.func58 (by kernel_rfl) ?_
        repeat (first | refine g_cnd Tk Tryz.func58 rfl (fun _ => ?_) (fun h => absurd h (by decide)) | refine g_cnd Tk Tryz.func58 rfl (fun h => absurd h (by decide)) (fun _ => ?_) | refine g_know Tk Tryz.func58 rfl (fun _ => ?_) (fun h => absurd h (by decide)) | refine g_know Tk Tryz.func58 rfl (fun h => absurd h (by decide)) (fun _ => ?_) | refine s_know Tk (fun _ => ?_) (fun h => absurd h (by decide)) | refine s_know Tk (fun h => absurd h (by decide)) (fun _ => ?_))
        rw [hpn h2] at hR
        rw [if_neg (by simp)] at hR
        refine g_stop ?_
        refine rch_meet (J hR.symm) ⟨rfl, rfl, rfl, trivial⟩ rfl ⟨rfl, rfl, trivial⟩ rfl rfl
    · intro hR
      refine g_run Tk Tryz.func58 ?_
      refine g_go Tk Tryz.func58 ?_
      first | refine g_call Tk Tryz.func58 (checkExpr78A _ xg m.vars.length 2 hx1) rfl rfl rfl rfl rfl ?_ | refine s_call Tk (checkExpr78A _ xg m.vars.length 2 hx1) rfl rfl rfl ?_
      first | refine g_cnd Tk Tryz.func58 rfl (fun h2 => ?_) (fun h2 => ?_) | refine g_know Tk Tryz.func58 rfl (fun h2 => ?_) (fun h2 => ?_) | refine s_know Tk (fun h2 => ?_) (fun h2 => ?_)
      · have h2 := bneT h2
        rw [if_pos h2] at hR
        subst hR
        refine g_ret Tk (r := ii _) rfl rfl rfl trivial rfl rfl ?_
        rfl
      have h2 := bneF h2
      rw [if_neg (by simpa using h2)] at hR
      refine g_loop ?_
      refine rch_loop2 (fun j : Nat => [(2, .own 0 2 0 0), (5, .own 0 5 0 0), (94, upds xu), (95, ii xu.length), (96, ii j)]) (fun _ => [(5, .box [ii xf, ii xe, ii xt, ii xg.op, ii xg.vl, ii xg.ix, exs xg.args, upds xu]), (2, .box (extC m))]) (fun _ => O) 138
        (fun j => j ≤ xu.length ∧ R = updErr m.vars.length ((prevL xu j).map (·.v)) (xu.drop j)) (fun j => xu.length - j) 0 ⟨Nat.zero_le _, hR⟩ ⟨rfl, rfl, rfl, rfl, rfl, trivial⟩ rfl ⟨rfl, rfl, trivial⟩ rfl rfl ?_
      rintro j ⟨hj, hno⟩ ih
      clear hR
      refine g_run Tk Tryz.func58 ?_
      first | refine g_cnd Tk Tryz.func58 rfl (fun h3 => ?_) (fun h3 => ?_) | refine g_know Tk Tryz.func58 rfl (fun h3 => ?_) (fun h3 => ?_) | refine s_know Tk (fun h3 => ?_) (fun h3 => ?_)
      · have h3 : j < xu.length := by simpa using h3
        have hd : xu.drop j = xu[j] :: xu.drop (j + 1) := List.drop_eq_getElem_cons h3
        have hm := List.getElem_mem h3
        have hgj : (xu.map updI)[(j : Int).toNat]? = some (updI xu[j]) := get_mapZ h3
        have hpj0 : 0 < j → prevL xu j = some (xu[j - 1]'(by omega)) := fun h => prevL_pos h h3
        have hgpj : ∀ h : 0 < j, (xu.map updI)[(IntKind.i64.wrap ((j : Int) - 1)).toNat]? = some (updI (xu[j - 1]'(by omega))) := fun h => by
          rw [wpred h h3 hx2]
          exact get_mapZ (by omega)
        have hpjn : j = 0 → prevL xu j = none := fun h => by unfold prevL; rw [if_pos h]
        have hpj1 : prevL xu (j + 1) = some xu[j] := by rw [prevL, if_neg (by omega)]; simp [h3]
        generalize xu[j] = u at *
        have hux := hx3 u hm
        obtain ⟨uv, ux⟩ := u
        simp only at hux
        rw [hd] at hno
        simp only [updErr] at hno
        first | refine g_need Tk Tryz.func58 (by omega) ?_ | refine s_need Tk (by omega) ?_
        first | refine g_elem Tk Tryz.func58 (hgj) ?_ | refine s_elem Tk (hgj) ?_
        apply join_p (P := R = if typedX ux m.vars.length 1 ≠ 0 then typedX ux m.vars.length 1 else updErr m.vars.length (some uv) (xu.drop (j + 1))) (s6 := { σ := [(2, .own 0 2 0 0), (5, .own 0 5 0 0), (8, .own 0 8 0 0), (94, upds xu), (95, ii xu.length), (96, ii j)], S := [(8, .box [ii uv, ii ux.op, ii ux.vl, ii ux.ix, exs ux.args]), (5, .box [ii xf, ii xe, ii xt, ii xg.op, ii xg.vl, ii xg.ix, exs xg.args, upds xu]), (2, .box (extC m))] :: O, n := 138 })
        · intro J
          first | refine g_cnd Tk Tryz.func58 rfl (fun h4 => ?_) (fun h4 => ?_) | refine g_know Tk Tryz.func58 rfl (fun h4 => ?_) (fun h4 => ?_) | refine s_know Tk (fun h4 => ?_) (fun h4 => ?_)
          · have h4 : uv < 0 := of_decide_eq_true h4
            rw [if_pos (.inl h4)] at hno
            subst hno
            repeat (first | refine g_cnd Tk Tryz.func58 rfl (fun _ => ?_) (fun h => absurd h (by decide)) | refine g_cnd Tk Tryz.func58 rfl (fun h => absurd h (by decide)) (fun _ => ?_) | refine g_know Tk Tryz.func58 rfl (fun _ => ?_) (fun h => absurd h (by decide)) | refine g_know Tk Tryz.func58 rfl (fun h => absurd h (by decide)) (fun _ => ?_) | refine s_know Tk (fun _ => ?_) (fun h => absurd h (by decide)) | refine s_know Tk (fun h => absurd h (by decide)) (fun _ => ?_))
            refine g_ret Tk (r := ii 2) rfl rfl rfl trivial rfl rfl ?_
            rfl
          have h4 : ¬ uv < 0 := of_decide_eq_false h4
          first | refine g_cnd Tk Tryz.func58 rfl (fun h5 => ?_) (fun h5 => ?_) | refine g_know Tk Tryz.func58 rfl (fun h5 => ?_) (fun h5 => ?_) | refine s_know Tk (fun h5 => ?_) (fun h5 => ?_)
          · have h5 : uv ≥ m.vars.length := of_decide_eq_true h5
            rw [if_pos (.inr h5)] at hno
            subst hno
            refine g_ret Tk (r := ii 2) rfl rfl rfl trivial rfl rfl ?_
            rfl
          have h5 : ¬ uv ≥ m.vars.length := of_decide_eq_false h5
          rw [if_neg (by omega)] at hno
          refine g_drawn Tk Tryz.func58 mixedT rfl ?_
          first | refine g_cnd Tk Tryz.func58 rfl (fun h6 => ?_) (fun h6 => ?_) | refine g_know Tk Tryz.func58 rfl (fun h6 => ?_) (fun h6 => ?_) | refine s_know Tk (fun h6 => ?_) (fun h6 => ?_)
          · have h6 : 0 < j := by have := of_decide_eq_true h6; omega
            have hgpj := hgpj h6
            have hw := wpred h6 h3 hx2
            rw [hpj0 h6] at hno
            generalize xu[j - 1] = y at hgpj hno
            obtain ⟨yv, yx⟩ := y
            simp only [Option.map_some, Option.any_some] at hno
            first | refine g_need Tk Tryz.func58 (by rw [hw]; omega) ?_ | refine s_need Tk (by rw [hw]; omega) ?_
            first | refine g_elem Tk Tryz.func58 (hgpj) ?_ | refine s_elem Tk (hgpj) ?_
            refine e_done Tk Tryz.func58 (by kernel_rfl) ?_
            first | refine g_cnd Tk Tryz.func58 rfl (fun h7 => ?_) (fun h7 => ?_) | refine g_know Tk Tryz.func58 rfl (fun h7 => ?_) (fun h7 => ?_) | refine s_know Tk (fun h7 => ?_) (fun h7 => ?_)
            · have h7 : uv ≤ yv := of_decide_eq_true h7
              rw [if_pos (decide_eq_true h7)] at hno
              subst hno
              refine g_ret Tk (r := ii 5) rfl rfl rfl trivial rfl rfl ?_
              rfl
            · have h7 : ¬ uv ≤ yv := of_decide_eq_false h7
              rw [if_neg (by simpa using h7)] at hno
              refine g_stop ?_
              refine rch_meet (J hno) ⟨rfl, rfl, rfl, rfl, rfl, rfl, trivial⟩ rfl ⟨rfl, rfl, rfl, trivial⟩ rfl rfl
          · have h6 : j = 0 := by have := of_decide_eq_false h6; omega
            refine e_done Tk Tryz.func58 (by kernel_rfl) ?_
            repeat (first | refine g_cnd Tk Tryz.func58 rfl (fun _ => ?_) (fun h => absurd h (by decide)) | refine g_cnd Tk Tryz.func58 rfl (fun h => absurd h (by decide)) (fun _ => ?_) | refine g_know Tk Tryz.func58 rfl (fun _ => ?_) (fun h => absurd h (by decide)) | refine g_know Tk Tryz.func58 rfl (fun h => absurd h (by decide)) (fun _ => ?_) | refine s_know Tk (fun _ => ?_) (fun h => absurd h (by decide)) | refine s_know Tk (fun h => absurd h (by decide)) (fun _ => ?_))
            rw [hpjn h6] at hno
            simp only [Option.map_none, Option.any_none] at hno
            rw [if_neg (by simp)] at hno
            refine g_stop ?_
            refine rch_meet (J hno) ⟨rfl, rfl, rfl, rfl, rfl, rfl, trivial⟩ rfl ⟨rfl, rfl, rfl, trivial⟩ rfl rfl
        · intro hno
          refine g_run Tk Tryz.func58 ?_
          refine g_go Tk Tryz.func58 ?_
          first | refine g_call Tk Tryz.func58 (checkExpr78A _ ux m.vars.length 1 hux) rfl rfl rfl rfl rfl ?_ | refine s_call Tk (checkExpr78A _ ux m.vars.length 1 hux) rfl rfl rfl ?_
          first | refine g_cnd Tk Tryz.func58 rfl (fun h7 => ?_) (fun h7 => ?_) | refine g_know Tk Tryz.func58 rfl (fun h7 => ?_) (fun h7 => ?_) | refine s_know Tk (fun h7 => ?_) (fun h7 => ?_)
          · have h7 := bneT h7
            rw [if_pos h7] at hno
            subst hno
            refine g_ret Tk (r := ii _) rfl rfl rfl trivial rfl rfl ?_
            rfl
          have h7 := bneF h7
          rw [if_neg (by simpa using h7)] at hno
          refine g_loop ?_
          refine ih (j + 1) _ _ ⟨h3, by rw [hpj1]; exact hno⟩ (by omega) ⟨rfl, rfl, rfl, rfl, congrArg ii (wsucc h3 hx2), trivial⟩ rfl ⟨rfl, rfl, trivial⟩ rfl rfl
      · have h3 : xu.length ≤ j := by simpa using h3
        rw [List.drop_eq_nil_of_le h3] at hno
        simp only [updErr] at hno
        subst hno
        refine g_ret Tk (r := ii 0) rfl rfl rfl trivial rfl rfl ?_
        rfl
end Go.AI


namespace Go.AI
open Go.Proofs
set_option maxRecDepth 20000
theorem checkSet_sorted {n : Int} : ∀ {l : List Int} {p : Option Int}, checkSet n l p = 0 → l.Pairwise (· < ·) ∧ (∀ x ∈ l, 0 ≤ x ∧ x < n) ∧ ∀ y, p = some y → ∀ x ∈ l, y < x
  | [], p, _ => ⟨.nil, by simp, by simp⟩
  | x :: r, p, h => by
    simp only [checkSet] at h
    by_cases h1 : x < 0 ∨ x ≥ n
    · rw [if_pos h1] at h; cases h
    rw [if_neg h1] at h
    by_cases h2 : p.any (x ≤ ·) = true
    · rw [if_pos h2] at h; cases h
    rw [if_neg h2] at h
    obtain ⟨a, b, c⟩ := checkSet_sorted h
    refine ⟨List.pairwise_cons.2 ⟨c x rfl, a⟩, fun y hy => ?_, fun y hp z hz => ?_⟩
    · rcases List.mem_cons.1 hy with rfl | hy
      · omega
      · exact b y hy
    · subst hp
      have hyx : y < x := by simpa using h2
      rcases List.mem_cons.1 hz with rfl | hz
      · exact hyx
      · have := c x rfl z hz; omega
def varsErr (l : List Vr) : Int := if l.length > 16 then 3 else checkVrs l l 0
theorem checkVars56' (O : List Heap) (l : List Vr) (hl : l.length ≤ max63) (hn : ∀ v ∈ l, v.name.size ≤ max63) : ASpec Tryz.prog 57 [vrs l] O (ii (varsErr l)) [] O := checkVars56 O l hl hn
def mvsErr (m : Ext) : Option Mv → List Mv → Int
  | _, [] => 0
  | prev, x :: r => if mvErr m prev x ≠ 0 then mvErr m prev x else mvsErr m (some x) r
/-- Check: the first error. -/
def chk (m : Ext) : Int :=
  if checkSet 32 m.alpha none ≠ 0 then checkSet 32 m.alpha none else
  if m.locs < 1 ∨ m.locs > 64 ∨ m.init < 0 ∨ m.init ≥ m.locs then 2 else
  if checkSet m.locs m.marked none ≠ 0 then checkSet m.locs m.marked none else
  if varsErr m.vars ≠ 0 then varsErr m.vars else
  if m.moves.length > 256 then 3 else mvsErr m none m.moves
theorem check40 (O : List Heap) (m : Ext) (hok : extOk m) : ASpec Tryz.prog 18 [extD m] O (ii (chk m)) [] O := by
  have hal := hok.al
  have hma := hok.ma
  have hmo := hok.mo
  generalize hR : chk m = R
  unfold chk at hR
  refine aspec_stop [] Tk Tryz.func18 rfl Tryz.call18 Tryz.ntmps18 (Nat.le_of_ble_eq_true rfl) fun E => ?_
  refine g_run Tk Tryz.func18 ?_
  first | refine g_call Tk Tryz.func18 (checkSet59 _ m.alpha 32 hal) rfl rfl rfl rfl rfl ?_ | refine s_call Tk (checkSet59 _ m.alpha 32 hal) rfl rfl rfl ?_
  first | refine g_cnd Tk Tryz.func18 rfl (fun h1 => ?_) (fun h1 => ?_) | refine g_know Tk Tryz.func18 rfl (fun h1 => ?_) (fun h1 => ?_) | refine s_know Tk (fun h1 => ?_) (fun h1 => ?_)
  · have h1 := bneT h1
    rw [if_pos h1] at hR
    subst hR
    refine g_ret Tk (r := ii _) rfl rfl rfl trivial rfl rfl ?_
    rfl
  have h1 := bneF h1
  rw [if_neg (by simpa using h1)] at hR
  have hs := (checkSet_sorted h1).1
  have bad : (m.locs < 1 ∨ m.locs > 64 ∨ m.init < 0 ∨ m.init ≥ m.locs) → R = 2 := fun h => by rw [← hR, if_pos h]
  first | refine g_cnd Tk Tryz.func18 rfl (fun h2 => ?_) (fun h2 => ?_) | refine g_know Tk Tryz.func18 rfl (fun h2 => ?_) (fun h2 => ?_) | refine s_know Tk (fun h2 => ?_) (fun h2 => ?_)
  · have := bad (.inl (of_decide_eq_true h2))
    subst this
    repeat (first | refine g_cnd Tk Tryz.func18 rfl (fun _ => ?_) (fun h => absurd h (by decide)) | refine g_cnd Tk Tryz.func18 rfl (fun h => absurd h (by decide)) (fun _ => ?_) | refine g_know Tk Tryz.func18 rfl (fun _ => ?_) (fun h => absurd h (by decide)) | refine g_know Tk Tryz.func18 rfl (fun h => absurd h (by decide)) (fun _ => ?_) | refine s_know Tk (fun _ => ?_) (fun h => absurd h (by decide)) | refine s_know Tk (fun h => absurd h (by decide)) (fun _ => ?_))
    refine g_ret Tk (r := ii 2) rfl rfl rfl trivial rfl rfl ?_
    rfl
  have h2 : ¬ m.locs < 1 := of_decide_eq_false h2
  first | refine g_cnd Tk Tryz.func18 rfl (fun h3 => ?_) (fun h3 => ?_) | refine g_know Tk Tryz.func18 rfl (fun h3 => ?_) (fun h3 => ?_) | refine s_know Tk (fun h3 => ?_) (fun h3 => ?_)
  · have := bad (.inr (.inl (of_decide_eq_true h3)))
    subst this
    repeat (first | refine g_cnd Tk Tryz.func18 rfl (fun _ => ?_) (fun h => absurd h (by decide)) | refine g_cnd Tk Tryz.func18 rfl (fun h => absurd h (by decide)) (fun _ => ?_) | refine g_know Tk Tryz.func18 rfl (fun _ => ?_) (fun h => absurd h (by decide)) | refine g_know Tk Tryz.func18 rfl (fun h => absurd h (by decide)) (fun _ => ?_) | refine s_know Tk (fun _ => ?_) (fun h => absurd h (by decide)) | refine s_know Tk (fun h => absurd h (by decide)) (fun _ => ?_))
    refine g_ret Tk (r := ii 2) rfl rfl rfl trivial rfl rfl ?_
    rfl
  have h3 : ¬ m.locs > 64 := of_decide_eq_false h3
  first | refine g_cnd Tk Tryz.func18 rfl (fun h4 => ?_) (fun h4 => ?_) | refine g_know Tk Tryz.func18 rfl (fun h4 => ?_) (fun h4 => ?_) | refine s_know Tk (fun h4 => ?_) (fun h4 => ?_)
  · have := bad (.inr (.inr (.inl (of_decide_eq_true h4))))
    subst this
    repeat (first | refine g_cnd Tk Tryz.func18 rfl (fun _ => ?_) (fun h => absurd h (by decide)) | refine g_cnd Tk Tryz.func18 rfl (fun h => absurd h (by decide)) (fun _ => ?_) | refine g_know Tk Tryz.func18 rfl (fun _ => ?_) (fun h => absurd h (by decide)) | refine g_know Tk Tryz.func18 rfl (fun h => absurd h (by decide)) (fun _ => ?_) | refine s_know Tk (fun _ => ?_) (fun h => absurd h (by decide)) | refine s_know Tk (fun h => absurd h (by decide)) (fun _ => ?_))
    refine g_ret Tk (r := ii 2) rfl rfl rfl trivial rfl rfl ?_
    rfl
  have h4 : ¬ m.init < 0 := of_decide_eq_false h4
  first | refine g_cnd Tk Tryz.func18 rfl (fun h5 => ?_) (fun h5 => ?_) | refine g_know Tk Tryz.func18 rfl (fun h5 => ?_) (fun h5 => ?_) | refine s_know Tk (fun h5 => ?_) (fun h5 => ?_)
  · have := bad (.inr (.inr (.inr (of_decide_eq_true h5))))
    subst this
    refine g_ret Tk (r := ii 2) rfl rfl rfl trivial rfl rfl ?_
    rfl
  have h5 : ¬ m.init ≥ m.locs := of_decide_eq_false h5
  rw [if_neg (by omega)] at hR
  first | refine g_call Tk Tryz.func18 (checkSet59 _ m.marked m.locs hma) rfl rfl rfl rfl rfl ?_ | refine s_call Tk (checkSet59 _ m.marked m.locs hma) rfl rfl rfl ?_
  first | refine g_cnd Tk Tryz.func18 rfl (fun h6 => ?_) (fun h6 => ?_) | refine g_know Tk Tryz.func18 rfl (fun h6 => ?_) (fun h6 => ?_) | refine s_know Tk (fun h6 => ?_) (fun h6 => ?_)
  · have h6 := bneT h6
    rw [if_pos h6] at hR
    subst hR
    refine g_ret Tk (r := ii _) rfl rfl rfl trivial rfl rfl ?_
    rfl
  have h6 := bneF h6
  rw [if_neg (by simpa using h6)] at hR
  first | refine g_call Tk Tryz.func18 (checkVars56' _ m.vars hok.va hok.na) rfl rfl rfl rfl rfl ?_ | refine s_call Tk (checkVars56' _ m.vars hok.va hok.na) rfl rfl rfl ?_
  first | refine g_cnd Tk Tryz.func18 rfl (fun h7 => ?_) (fun h7 => ?_) | refine g_know Tk Tryz.func18 rfl (fun h7 => ?_) (fun h7 => ?_) | refine s_know Tk (fun h7 => ?_) (fun h7 => ?_)
  · have h7 := bneT h7
    rw [if_pos h7] at hR
    subst hR
    refine g_ret Tk (r := ii _) rfl rfl rfl trivial rfl rfl ?_
    rfl
  have h7 := bneF h7
  rw [if_neg (by simpa using h7)] at hR
  first | refine g_cnd Tk Tryz.func18 rfl (fun h8 => ?_) (fun h8 => ?_) | refine g_know Tk Tryz.func18 rfl (fun h8 => ?_) (fun h8 => ?_) | refine s_know Tk (fun h8 => ?_) (fun h8 => ?_)
  · have h8 : m.moves.length > 256 := by have := of_decide_eq_true h8; omega
    rw [if_pos h8] at hR
    subst hR
    refine g_ret Tk (r := ii _) rfl rfl rfl trivial rfl rfl ?_
    rfl
  have h8 : ¬ m.moves.length > 256 := by have := of_decide_eq_false h8; omega
  rw [if_neg h8] at hR
  refine g_loop ?_
  refine rch_loop2 (fun j : Nat => [(1, .own 0 1 0 0), (54, ii m.moves.length), (55, ii j)]) (fun _ => [(1, .box (extC m))]) (fun _ => O) 65
    (fun j => j ≤ m.moves.length ∧ R = mvsErr m (prevL m.moves j) (m.moves.drop j)) (fun j => m.moves.length - j) 0 ⟨Nat.zero_le _, hR.symm⟩ ⟨rfl, rfl, rfl, trivial⟩ rfl ⟨rfl, trivial⟩ rfl rfl ?_
  rintro j ⟨hj, hno⟩ ih
  clear hR bad
  refine g_run Tk Tryz.func18 ?_
  first | refine g_cnd Tk Tryz.func18 rfl (fun h9 => ?_) (fun h9 => ?_) | refine g_know Tk Tryz.func18 rfl (fun h9 => ?_) (fun h9 => ?_) | refine s_know Tk (fun h9 => ?_) (fun h9 => ?_)
  · have h9 : j < m.moves.length := by simpa using h9
    have hd : m.moves.drop j = m.moves[j] :: m.moves.drop (j + 1) := List.drop_eq_getElem_cons h9
    have hpj1 : prevL m.moves (j + 1) = some m.moves[j] := by rw [prevL, if_neg (by omega)]; simp [h9]
    rw [hd] at hno
    simp only [mvsErr] at hno
    first | refine g_call Tk Tryz.func18 (checkMove61 _ m j h9 hs hok) rfl rfl rfl rfl rfl ?_ | refine s_call Tk (checkMove61 _ m j h9 hs hok) rfl rfl rfl ?_
    first | refine g_cnd Tk Tryz.func18 rfl (fun h10 => ?_) (fun h10 => ?_) | refine g_know Tk Tryz.func18 rfl (fun h10 => ?_) (fun h10 => ?_) | refine s_know Tk (fun h10 => ?_) (fun h10 => ?_)
    · have h10 := bneT h10
      rw [if_pos h10] at hno
      subst hno
      refine g_ret Tk (r := ii _) rfl rfl rfl trivial rfl rfl ?_
      rfl
    have h10 := bneF h10
    rw [if_neg (by simpa using h10)] at hno
    refine g_loop ?_
    refine ih (j + 1) _ _ ⟨h9, by rw [hpj1]; exact hno⟩ (by omega) ⟨rfl, rfl, congrArg ii (wsucc h9 hmo), trivial⟩ rfl ⟨rfl, trivial⟩ rfl rfl
  · have h9 : m.moves.length ≤ j := by simpa using h9
    rw [List.drop_eq_nil_of_le h9] at hno
    simp only [mvsErr] at hno
    subst hno
    refine g_ret Tk (r := ii 0) rfl rfl rfl trivial rfl rfl ?_
    rfl
end Go.AI


namespace Go.AI
open Go.Proofs
set_option maxRecDepth 20000
set_option maxHeartbeats 400000
def startR (m : Ext) : Sta := ⟨m.init, m.vars.map (·.init)⟩
theorem start48 (O : List Heap) (m : Ext) (hv : m.vars.length ≤ 16) : ASpec Tryz.prog 85 [extD m] O (staD (startR m)) [] O := by
  refine aspec_intro Tk Tryz.func85 rfl Tryz.call85 Tryz.ntmps85 (Nat.le_of_ble_eq_true rfl) fun E => ?_
  refine g_run Tk Tryz.func85 ?_
  refine g_loop ?_
  refine rch_wk (wk_nilbox2 3 21 3 1 (pre := [ii m.init]) (post := []) rfl rfl rfl) ?_
  refine rch_loop2 (fun i : Nat => [(2, .own 0 2 0 0), (3, .own 0 3 0 0), (10, vrs m.vars), (11, ii m.vars.length), (12, ii i)]) (fun i => [(3, .box [ii m.init, .osl 0 21]), (21, oints ((m.vars.take i).map (·.init))), (2, .box [ii 0, .i (.v (.slice none 0 0))])]) (fun _ => O) 25
    (fun i => i ≤ m.vars.length) (fun i => m.vars.length - i) 0 (Nat.zero_le _) ⟨rfl, rfl, rfl, rfl, rfl, trivial⟩ rfl ⟨rfl, rfl, rfl, trivial⟩ rfl rfl ?_
  rintro i hi ih
  refine g_run Tk Tryz.func85 ?_
  first | refine g_cnd Tk Tryz.func85 rfl (fun h1 => ?_) (fun h1 => ?_) | refine g_know Tk Tryz.func85 rfl (fun h1 => ?_) (fun h1 => ?_) | refine s_know Tk (fun h1 => ?_) (fun h1 => ?_)
  · have h1 : i < m.vars.length := by simpa using h1
    have hl : ((m.vars.take i).map (·.init)).length = i := by simp; omega
    have e : (m.vars.take (i + 1)).map (·.init) = (m.vars.take i).map (·.init) ++ [m.vars[i].init] := take_map_succ h1
    have hg : (m.vars.map vrI)[(i : Int).toNat]? = some (vrI m.vars[i]) := get_mapZ h1
    generalize m.vars[i] = v at e hg
    generalize (m.vars.take i).map (·.init) = l at *
    first | refine g_need Tk Tryz.func85 (by omega) ?_ | refine s_need Tk (by omega) ?_
    first | refine g_elem Tk Tryz.func85 (hg) ?_ | refine s_elem Tk (hg) ?_
    first | refine g_need Tk Tryz.func85 (by exact ⟨by show (l.length + 1) * 8 ≤ 140737488355328; omega, by show l.length + 1 ≤ 9223372036854775807; omega⟩) ?_ | refine s_need Tk (by exact ⟨by show (l.length + 1) * 8 ≤ 140737488355328; omega, by show l.length + 1 ≤ 9223372036854775807; omega⟩) ?_
    refine g_loop ?_
    refine ih (i + 1) _ _ h1 (by omega) ⟨rfl, rfl, rfl, rfl, congrArg ii (wsucc (n := 16) (by omega) (by decide)), trivial⟩ rfl ⟨rfl, by rw [e]; exact congrArg some (oints_app l v.init), rfl, trivial⟩ rfl rfl
  · have h1 : m.vars.length ≤ i := by simpa using h1
    rw [List.take_of_length_le h1]
    refine g_rwk (wk_freeze 21 rfl rfl) ?_
    refine g_rwk (wk_imm rfl) ?_
    refine g_ret Tk (r := staD (startR m)) rfl rfl rfl trivial rfl rfl ?_
    rfl
abbrev mvPtr (l : List Mv) : Option Nat → D
  | none => .i (.v (.pointer none))
  | some k => .i (.ptr 8 (l.map mvI) k 0)
/-- The move that is possible: its index. -/
def chs (s : Sta) (ev : Int) : List Mv → Nat → Option Nat → Bool → Option Nat × Int
  | [], _, out, two => if two then (none, 18) else (out, 0)
  | x :: r, i, out, two =>
    if x.frm ≠ s.loc ∨ x.ev ≠ ev then chs s ev r (i + 1) out two else
    if (evalX x.g s.vals).2 ≠ 0 then (none, 17) else
    if (evalX x.g s.vals).1 = 1 then chs s ev r (i + 1) (some i) (out.isSome || two) else chs s ev r (i + 1) out two
theorem choose66 (O : List Heap) (m : Ext) (s : Sta) (ev : Int) (hok : extOk m) (hl : s.vals.length ≤ max63) : ASpec Tryz.prog 113 [extD m, staD s, ii ev] O (.tup [mvPtr m.moves (chs s ev m.moves 0 none false).1, ii (chs s ev m.moves 0 none false).2]) [] O := by
  have hmo := hok.mo
  obtain ⟨sl, sv⟩ := s
  generalize hR : chs ⟨sl, sv⟩ ev m.moves 0 none false = R
  refine aspec_intro Tk Tryz.func113 rfl Tryz.call113 Tryz.ntmps113 (Nat.le_of_ble_eq_true rfl) fun E => ?_
  refine g_run Tk Tryz.func113 ?_
  refine g_loop ?_
  refine rch_loop2 (fun x : Nat × Option Nat × Bool => [(2, ii ev), (3, .own 0 3 0 0), (4, .own 0 4 0 0), (8, mvPtr m.moves x.2.1), (9, bb x.2.2), (16, ii m.moves.length), (17, ii x.1)]) (fun _ => [(4, .box [ii sl, ints sv]), (3, .box (extC m))]) (fun _ => O) 62
    (fun x => x.1 ≤ m.moves.length ∧ R = chs ⟨sl, sv⟩ ev (m.moves.drop x.1) x.1 x.2.1 x.2.2) (fun x => m.moves.length - x.1) (0, none, false) ⟨Nat.zero_le _, hR.symm⟩ ⟨rfl, rfl, rfl, rfl, rfl, rfl, rfl, trivial⟩ rfl ⟨rfl, rfl, trivial⟩ rfl rfl ?_
  rintro ⟨i, out, two⟩ ⟨hi, hno⟩ ih
  clear hR
  simp only at hi hno
  refine g_run Tk Tryz.func113 ?_
  first | refine g_cnd Tk Tryz.func113 rfl (fun h1 => ?_) (fun h1 => ?_) | refine g_know Tk Tryz.func113 rfl (fun h1 => ?_) (fun h1 => ?_) | refine s_know Tk (fun h1 => ?_) (fun h1 => ?_)
  · have h1 : i < m.moves.length := by simpa using h1
    have hd : m.moves.drop i = m.moves[i] :: m.moves.drop (i + 1) := List.drop_eq_getElem_cons h1
    have hg : (m.moves.map mvI)[(i : Int).toNat]? = some (mvI m.moves[i]) := get_mapZ h1
    have hx := (hok.mv _ (List.getElem_mem h1)).1
    generalize m.moves[i] = x at *
    obtain ⟨xf, xe, xt, xg, xu⟩ := x
    simp only at hx
    rw [hd] at hno
    simp only [chs] at hno
    have hev := evaluate51A
    first | refine g_need Tk Tryz.func113 (by omega) ?_ | refine s_need Tk (by omega) ?_
    refine g_drawn Tk Tryz.func113 mixedT rfl ?_
    first | refine g_elem Tk Tryz.func113 (hg) ?_ | refine s_elem Tk (hg) ?_
    first | refine g_cnd Tk Tryz.func113 rfl (fun h2 => ?_) (fun h2 => ?_) | refine g_know Tk Tryz.func113 rfl (fun h2 => ?_) (fun h2 => ?_) | refine s_know Tk (fun h2 => ?_) (fun h2 => ?_)
    · have h2 : xf ≠ sl := bneT h2
      rw [if_pos (.inl h2)] at hno
      refine e_done Tk Tryz.func113 (by kernel_rfl) ?_
      repeat (first | refine g_cnd Tk Tryz.func113 rfl (fun _ => ?_) (fun h => absurd h (by decide)) | refine g_cnd Tk Tryz.func113 rfl (fun h => absurd h (by decide)) (fun _ => ?_) | refine g_know Tk Tryz.func113 rfl (fun _ => ?_) (fun h => absurd h (by decide)) | refine g_know Tk Tryz.func113 rfl (fun h => absurd h (by decide)) (fun _ => ?_) | refine s_know Tk (fun _ => ?_) (fun h => absurd h (by decide)) | refine s_know Tk (fun h => absurd h (by decide)) (fun _ => ?_))
      refine g_loop ?_
      refine ih (i + 1, out, two) _ _ ⟨h1, hno⟩ (by simp only; omega) ⟨rfl, rfl, rfl, rfl, rfl, rfl, congrArg ii (wsucc h1 hmo), trivial⟩ rfl ⟨rfl, rfl, trivial⟩ (by cases out <;> rfl) rfl
    have h2 : xf = sl := bneF h2
    first | refine g_elem Tk Tryz.func113 (hg) ?_ | refine s_elem Tk (hg) ?_
    refine e_done Tk Tryz.func113 (by kernel_rfl) ?_
    first | refine g_cnd Tk Tryz.func113 rfl (fun h3 => ?_) (fun h3 => ?_) | refine g_know Tk Tryz.func113 rfl (fun h3 => ?_) (fun h3 => ?_) | refine s_know Tk (fun h3 => ?_) (fun h3 => ?_)
    · have h3 : xe ≠ ev := bneT h3
      rw [if_pos (.inr h3)] at hno
      refine g_loop ?_
      refine ih (i + 1, out, two) _ _ ⟨h1, hno⟩ (by simp only; omega) ⟨rfl, rfl, rfl, rfl, rfl, rfl, congrArg ii (wsucc h1 hmo), trivial⟩ rfl ⟨rfl, rfl, trivial⟩ (by cases out <;> rfl) rfl
    have h3 : xe = ev := bneF h3
    rw [if_neg (by simp [h2, h3])] at hno
    refine g_drawn Tk Tryz.func113 mixedT rfl ?_
    first | refine g_elem Tk Tryz.func113 (hg) ?_ | refine s_elem Tk (hg) ?_
    first | refine g_call Tk Tryz.func113 (evaluate51A _ xg sv hx hl) rfl rfl rfl rfl rfl ?_ | refine s_callq Tk (fun _ => evaluate51A _ xg sv hx hl) rfl rfl rfl ?_
    refine e_done Tk Tryz.func113 (by kernel_rfl) ?_
    first | refine g_cnd Tk Tryz.func113 rfl (fun h4 => ?_) (fun h4 => ?_) | refine g_know Tk Tryz.func113 rfl (fun h4 => ?_) (fun h4 => ?_) | refine s_know Tk (fun h4 => ?_) (fun h4 => ?_)
    · have h4 := bneT h4
      rw [if_pos h4] at hno
      subst hno
      refine g_ret Tk (r := .tup [.i (.v (.pointer none)), ii 17]) rfl rfl rfl trivial rfl rfl ?_
      rfl
    have h4 := bneF h4
    rw [if_neg (by simpa using h4)] at hno
    first | refine g_cnd Tk Tryz.func113 rfl (fun h5 => ?_) (fun h5 => ?_) | refine g_know Tk Tryz.func113 rfl (fun h5 => ?_) (fun h5 => ?_) | refine s_know Tk (fun h5 => ?_) (fun h5 => ?_)
    · have h5 := beqT h5
      rw [if_pos h5] at hno
      have hlt := h1
      cases out with
      | none =>
        repeat (first | refine g_cnd Tk Tryz.func113 rfl (fun _ => ?_) (fun h => absurd h (by decide)) | refine g_cnd Tk Tryz.func113 rfl (fun h => absurd h (by decide)) (fun _ => ?_) | refine g_know Tk Tryz.func113 rfl (fun _ => ?_) (fun h => absurd h (by decide)) | refine g_know Tk Tryz.func113 rfl (fun h => absurd h (by decide)) (fun _ => ?_) | refine s_know Tk (fun _ => ?_) (fun h => absurd h (by decide)) | refine s_know Tk (fun h => absurd h (by decide)) (fun _ => ?_))
        refine g_loop ?_
        refine ih (i + 1, some i, two) _ _ ⟨hlt, hno⟩ (by simp only; omega) ⟨rfl, rfl, rfl, rfl, rfl, rfl, congrArg ii (wsucc hlt hmo), trivial⟩ rfl ⟨rfl, rfl, trivial⟩ rfl rfl
      | some k =>
        repeat (first | refine g_cnd Tk Tryz.func113 rfl (fun _ => ?_) (fun h => absurd h (by decide)) | refine g_cnd Tk Tryz.func113 rfl (fun h => absurd h (by decide)) (fun _ => ?_) | refine g_know Tk Tryz.func113 rfl (fun _ => ?_) (fun h => absurd h (by decide)) | refine g_know Tk Tryz.func113 rfl (fun h => absurd h (by decide)) (fun _ => ?_) | refine s_know Tk (fun _ => ?_) (fun h => absurd h (by decide)) | refine s_know Tk (fun h => absurd h (by decide)) (fun _ => ?_))
        refine g_loop ?_
        refine ih (i + 1, some i, true) _ _ ⟨hlt, hno⟩ (by simp only; omega) ⟨rfl, rfl, rfl, rfl, rfl, rfl, congrArg ii (wsucc hlt hmo), trivial⟩ rfl ⟨rfl, rfl, trivial⟩ rfl rfl
    · have h5 := beqF h5
      rw [if_neg h5] at hno
      refine g_loop ?_
      refine ih (i + 1, out, two) _ _ ⟨h1, hno⟩ (by simp only; omega) ⟨rfl, rfl, rfl, rfl, rfl, rfl, congrArg ii (wsucc h1 hmo), trivial⟩ rfl ⟨rfl, rfl, trivial⟩ (by cases out <;> rfl) rfl
  · have h1 : m.moves.length ≤ i := by simpa using h1
    rw [List.drop_eq_nil_of_le h1] at hno
    simp only [chs] at hno
    first | refine g_cnd Tk Tryz.func113 rfl (fun h2 => ?_) (fun h2 => ?_) | refine g_know Tk Tryz.func113 rfl (fun h2 => ?_) (fun h2 => ?_) | refine s_know Tk (fun h2 => ?_) (fun h2 => ?_)
    · rw [if_pos h2] at hno
      subst hno
      refine g_ret Tk (r := .tup [.i (.v (.pointer none)), ii 18]) rfl rfl rfl trivial rfl rfl ?_
      rfl
    · have h2 : two = false := h2
      rw [if_neg (by rw [h2]; simp)] at hno
      subst hno
      cases out with
      | none =>
        refine g_ret Tk (r := .tup [.i (.v (.pointer none)), ii 0]) rfl rfl rfl trivial rfl rfl ?_
        rfl
      | some k =>
        refine g_ret Tk (r := .tup [.i (.ptr 8 (m.moves.map mvI) k 0), ii 0]) rfl rfl rfl trivial rfl rfl ?_
        rfl
end Go.AI


namespace Go.AI
open Go.Proofs
set_option maxRecDepth 20000
theorem chs_lt {s : Sta} {ev : Int} : ∀ {l : List Mv} {i : Nat} {out : Option Nat} {two : Bool} {k : Nat}, (∀ k, out = some k → k < i) → (chs s ev l i out two).1 = some k → k < i + l.length
  | [], i, out, two, k, ho, h => by
    simp only [chs] at h
    split at h
    · cases h
    · exact ho k h
  | x :: r, i, out, two, k, ho, h => by
    simp only [chs] at h
    have h1 : (∀ k, out = some k → k < i + 1) := fun k hk => by have := ho k hk; omega
    split at h
    · have := chs_lt h1 h; simp only [List.length_cons]; omega
    · split at h
      · cases h
      · split at h
        · have := chs_lt (out := some i) (fun k hk => by simp at hk; omega) h; simp only [List.length_cons]; omega
        · have := chs_lt h1 h; simp only [List.length_cons]; omega
theorem updErr_range {n : Int} : ∀ {l : List Upd} {p : Option Int}, updErr n p l = 0 → ∀ u ∈ l, 0 ≤ u.v ∧ u.v < n ∧ typedX u.x n 1 = 0
  | [], _, _, u, hu => by simp at hu
  | x :: r, p, h, u, hu => by
    simp only [updErr] at h
    by_cases h1 : x.v < 0 ∨ x.v ≥ n
    · rw [if_pos h1] at h; cases h
    rw [if_neg h1] at h
    by_cases h2 : p.any (x.v ≤ ·) = true
    · rw [if_pos h2] at h; cases h
    rw [if_neg h2] at h
    by_cases h3 : typedX x.x n 1 ≠ 0
    · rw [if_pos h3] at h; exact absurd h h3
    rw [if_neg h3] at h
    rcases List.mem_cons.1 hu with rfl | hu
    · exact ⟨by omega, by omega, by simpa using h3⟩
    · exact updErr_range h u hu
/-- What a right move is. -/
structure mvRight (m : Ext) (x : Mv) : Prop where
  frm : 0 ≤ x.frm ∧ x.frm < m.locs
  to : 0 ≤ x.to ∧ x.to < m.locs
  ev : x.ev ∈ m.alpha
  g : typedX x.g m.vars.length 2 = 0
  us : updErr m.vars.length none x.us = 0
theorem mvErr_right {m : Ext} {p : Option Mv} {x : Mv} (h : mvErr m p x = 0) : mvRight m x := by
  unfold mvErr at h
  by_cases h1 : x.frm < 0 ∨ x.frm ≥ m.locs ∨ x.to < 0 ∨ x.to ≥ m.locs
  · rw [if_pos h1] at h; cases h
  rw [if_neg h1] at h
  by_cases h2 : x.ev ∉ m.alpha
  · rw [if_pos h2] at h; cases h
  rw [if_neg h2] at h
  by_cases h3 : p.any (fun p => decide (x.frm < p.frm ∨ (x.frm = p.frm ∧ x.ev < p.ev))) = true
  · rw [if_pos h3] at h; cases h
  rw [if_neg h3] at h
  by_cases h4 : typedX x.g m.vars.length 2 ≠ 0
  · rw [if_pos h4] at h; exact absurd h h4
  rw [if_neg h4] at h
  exact ⟨by omega, by omega, by simpa using h2, by simpa using h4, h⟩
theorem mvsErr_right {m : Ext} : ∀ {l : List Mv} {p : Option Mv}, mvsErr m p l = 0 → ∀ x ∈ l, mvRight m x
  | [], _, _, x, hx => by simp at hx
  | y :: r, p, h, x, hx => by
    simp only [mvsErr] at h
    by_cases h1 : mvErr m p y ≠ 0
    · rw [if_pos h1] at h; exact absurd h h1
    rw [if_neg h1] at h
    rcases List.mem_cons.1 hx with rfl | hx
    · exact mvErr_right (by simpa using h1)
    · exact mvsErr_right h x hx
/-- What a right automaton is. -/
structure extRight (m : Ext) : Prop where
  alpha : checkSet 32 m.alpha none = 0
  locs : 1 ≤ m.locs ∧ m.locs ≤ 64
  init : 0 ≤ m.init ∧ m.init < m.locs
  marked : checkSet m.locs m.marked none = 0
  vars : varsErr m.vars = 0
  len : m.moves.length ≤ 256
  mv : ∀ x ∈ m.moves, mvRight m x
theorem chk_right {m : Ext} (h : chk m = 0) : extRight m := by
  unfold chk at h
  by_cases h1 : checkSet 32 m.alpha none ≠ 0
  · rw [if_pos h1] at h; exact absurd h h1
  rw [if_neg h1] at h
  by_cases h2 : m.locs < 1 ∨ m.locs > 64 ∨ m.init < 0 ∨ m.init ≥ m.locs
  · rw [if_pos h2] at h; cases h
  rw [if_neg h2] at h
  by_cases h3 : checkSet m.locs m.marked none ≠ 0
  · rw [if_pos h3] at h; exact absurd h h3
  rw [if_neg h3] at h
  by_cases h4 : varsErr m.vars ≠ 0
  · rw [if_pos h4] at h; exact absurd h h4
  rw [if_neg h4] at h
  by_cases h5 : m.moves.length > 256
  · rw [if_pos h5] at h; cases h
  rw [if_neg h5] at h
  exact ⟨by simpa using h1, by omega, by omega, by simpa using h3, by simpa using h4, by omega, mvsErr_right h⟩
theorem vars_len {l : List Vr} (h : varsErr l = 0) : l.length ≤ 16 := by
  unfold varsErr at h
  by_cases h1 : l.length > 16
  · rw [if_pos h1] at h; cases h
  · omega
/-- The values behind assignments. -/
def updR (m : Ext) (vals : List Int) : List Upd → List Int → Option (List Int)
  | [], acc => some acc
  | u :: r, acc => match m.vars[u.v.toNat]? with
    | none => none
    | some v => if (evalX u.x vals).2 ≠ 0 ∨ (evalX u.x vals).1 < v.low ∨ (evalX u.x vals).1 > v.high then none else updR m vals r (acc.set u.v.toNat (evalX u.x vals).1)
def zeroS : Sta := ⟨0, []⟩
def stepR (m : Ext) (s : Sta) (ev : Int) : Sta × Bool × Int :=
  match (chs s ev m.moves 0 none false).1 with
  | none => (zeroS, false, (chs s ev m.moves 0 none false).2)
  | some k => if (chs s ev m.moves 0 none false).2 ≠ 0 then (zeroS, false, (chs s ev m.moves 0 none false).2) else match m.moves[k]? with
    | none => (zeroS, false, 0)
    | some x => match updR m s.vals x.us s.vals with
      | none => (zeroS, false, 17)
      | some acc => (⟨x.to, acc⟩, true, 0)
theorem coZ {b : Bool} {e : Int} : CoD (.tup [.agg [ii 0, .i (.v (.slice none 0 0))], bb b, ii e]) (.tup [staD zeroS, bb b, ii e]) :=
  coD_tup (.cons (coD_agg (.cons (.refl _) (.cons (coD_i coI_nil) .nil))) (CoDL.refl _))
theorem step50 (O : List Heap) (m : Ext) (s : Sta) (ev : Int) (hok : extOk m) (hr : extRight m) (hl : s.vals.length = m.vars.length) : ASpec Tryz.prog 87 [extD m, staD s, ii ev] O (.tup [staD (stepR m s ev).1, bb (stepR m s ev).2.1, ii (stepR m s ev).2.2]) [] O := by
  have hv16 := vars_len hr.vars
  have hlm : s.vals.length ≤ max63 := by simp only [max63]; omega
  have hch := fun O => choose66 O m s ev hok hlm
  have hlt := @chs_lt s ev m.moves 0 none false
  generalize hR : stepR m s ev = R
  unfold stepR at hR
  generalize chs s ev m.moves 0 none false = C at *
  obtain ⟨out, e⟩ := C
  simp only at hR hch hlt
  obtain ⟨sl, sv⟩ := s
  simp only at hl hR hlm
  cases out with
  | none =>
    simp only at hR
    subst hR
    refine aspec_intro Tk Tryz.func87 rfl Tryz.call87 Tryz.ntmps87 (Nat.le_of_ble_eq_true rfl) fun E => ?_
    refine g_run Tk Tryz.func87 ?_
    first | refine g_call Tk Tryz.func87 (hch _) rfl rfl rfl rfl rfl ?_ | refine s_callq Tk (fun _ => hch _) rfl rfl rfl ?_
    first | refine g_cnd Tk Tryz.func87 rfl (fun h1 => ?_) (fun h1 => ?_) | refine g_know Tk Tryz.func87 rfl (fun h1 => ?_) (fun h1 => ?_) | refine s_know Tk (fun h1 => ?_) (fun h1 => ?_)
    · repeat (first | refine g_cnd Tk Tryz.func87 rfl (fun _ => ?_) (fun h => absurd h (by decide)) | refine g_cnd Tk Tryz.func87 rfl (fun h => absurd h (by decide)) (fun _ => ?_) | refine g_know Tk Tryz.func87 rfl (fun _ => ?_) (fun h => absurd h (by decide)) | refine g_know Tk Tryz.func87 rfl (fun h => absurd h (by decide)) (fun _ => ?_) | refine s_know Tk (fun _ => ?_) (fun h => absurd h (by decide)) | refine s_know Tk (fun h => absurd h (by decide)) (fun _ => ?_))
      refine g_ret_co Tk (r := .tup [.agg [ii 0, .i (.v (.slice none 0 0))], bb false, ii e]) rfl rfl rfl trivial rfl rfl ?_
      exact coZ
    · repeat (first | refine g_cnd Tk Tryz.func87 rfl (fun _ => ?_) (fun h => absurd h (by decide)) | refine g_cnd Tk Tryz.func87 rfl (fun h => absurd h (by decide)) (fun _ => ?_) | refine g_know Tk Tryz.func87 rfl (fun _ => ?_) (fun h => absurd h (by decide)) | refine g_know Tk Tryz.func87 rfl (fun h => absurd h (by decide)) (fun _ => ?_) | refine s_know Tk (fun _ => ?_) (fun h => absurd h (by decide)) | refine s_know Tk (fun h => absurd h (by decide)) (fun _ => ?_))
      refine g_ret_co Tk (r := .tup [.agg [ii 0, .i (.v (.slice none 0 0))], bb false, ii e]) rfl rfl rfl trivial rfl rfl ?_
      exact coZ
  | some k =>
    refine aspec_intro Tk Tryz.func87 rfl Tryz.call87 Tryz.ntmps87 (Nat.le_of_ble_eq_true rfl) fun E => ?_
    refine g_run Tk Tryz.func87 ?_
    first | refine g_call Tk Tryz.func87 (hch _) rfl rfl rfl rfl rfl ?_ | refine s_callq Tk (fun _ => hch _) rfl rfl rfl ?_
    first | refine g_cnd Tk Tryz.func87 rfl (fun h1 => ?_) (fun h1 => ?_) | refine g_know Tk Tryz.func87 rfl (fun h1 => ?_) (fun h1 => ?_) | refine s_know Tk (fun h1 => ?_) (fun h1 => ?_)
    · have h1 := bneT h1
      simp only at hR
      rw [if_pos h1] at hR
      subst hR
      repeat (first | refine g_cnd Tk Tryz.func87 rfl (fun _ => ?_) (fun h => absurd h (by decide)) | refine g_cnd Tk Tryz.func87 rfl (fun h => absurd h (by decide)) (fun _ => ?_) | refine g_know Tk Tryz.func87 rfl (fun _ => ?_) (fun h => absurd h (by decide)) | refine g_know Tk Tryz.func87 rfl (fun h => absurd h (by decide)) (fun _ => ?_) | refine s_know Tk (fun _ => ?_) (fun h => absurd h (by decide)) | refine s_know Tk (fun h => absurd h (by decide)) (fun _ => ?_))
      refine g_ret_co Tk (r := .tup [.agg [ii 0, .i (.v (.slice none 0 0))], bb false, ii e]) rfl rfl rfl trivial rfl rfl ?_
      exact coZ
    have h1 := bneF h1
    have hk : k < m.moves.length := by have := hlt (k := k) (by simp) rfl; omega
    have hg : (m.moves.map mvI)[k]? = some (mvI m.moves[k]) := by simp [hk]
    have hx := hok.mv _ (List.getElem_mem hk)
    have hxr := hr.mv _ (List.getElem_mem hk)
    simp only at hR
    rw [if_neg (by simpa using h1), List.getElem?_eq_getElem hk] at hR
    simp only at hR
    generalize m.moves[k] = x at *
    obtain ⟨xf, xe, xt, xg, xu⟩ := x
    obtain ⟨-, hx2, hx3⟩ := hx
    simp only at hx2 hx3 hR
    have hur := updErr_range hxr.us
    simp only at hur
    clear hxr hch hlt
    repeat (first | refine g_cnd Tk Tryz.func87 rfl (fun _ => ?_) (fun h => absurd h (by decide)) | refine g_cnd Tk Tryz.func87 rfl (fun h => absurd h (by decide)) (fun _ => ?_) | refine g_know Tk Tryz.func87 rfl (fun _ => ?_) (fun h => absurd h (by decide)) | refine g_know Tk Tryz.func87 rfl (fun h => absurd h (by decide)) (fun _ => ?_) | refine s_know Tk (fun _ => ?_) (fun h => absurd h (by decide)) | refine s_know Tk (fun h => absurd h (by decide)) (fun _ => ?_))
    refine g_drawn Tk Tryz.func87 mixedT rfl ?_
    first | refine g_elem Tk Tryz.func87 (hg) ?_ | refine s_elem Tk (hg) ?_
    first | refine g_call Tk Tryz.func87 (clone57 38 _ sv (by simp only [big]; omega)) rfl rfl rfl rfl rfl ?_ | refine s_callq Tk (fun _ => clone57 38 _ sv (by simp only [big]; omega)) rfl rfl rfl ?_
    refine s_old Tk ?_
    refine d_mod Tk (p := ⟨[], [(11, .box [ii xt, .osl 0 38])], none⟩) rfl rfl rfl ?_
    refine d_done Tk Tryz.func87 (by kernel_rfl) (GM.h ?_)
    first | refine g_elem Tk Tryz.func87 (hg) ?_ | refine s_elem Tk (hg) ?_
    refine g_loop ?_
    refine rch_loop2 (fun x : Nat × List Int => [(3, .own 0 3 0 0), (4, .own 0 4 0 0), (6, .own 0 6 0 0), (11, .own 0 11 0 0), (43, upds xu), (44, ii xu.length), (45, ii x.1)]) (fun x => [(11, .box [ii xt, .osl 0 38]), (38, oints x.2), (6, .box [ii 0, .i (.v (.slice none 0 0))]), (4, .box [ii sl, ints sv]), (3, .box (extC m))]) (fun _ => O) 86
      (fun x => x.1 ≤ xu.length ∧ x.2.length = m.vars.length ∧ (match updR m sv (xu.drop x.1) x.2 with | none => (zeroS, false, 17) | some acc => (⟨xt, acc⟩, true, 0)) = R) (fun x => xu.length - x.1) (0, sv) ⟨Nat.zero_le _, hl, hR⟩ ⟨rfl, rfl, rfl, rfl, rfl, rfl, rfl, trivial⟩ rfl ⟨rfl, rfl, rfl, rfl, rfl, trivial⟩ rfl rfl ?_
    rintro ⟨i, acc⟩ ⟨hi, hacc, hno⟩ ih
    clear hR
    simp only at hi hacc hno
    refine g_run Tk Tryz.func87 ?_
    first | refine g_cnd Tk Tryz.func87 rfl (fun h2 => ?_) (fun h2 => ?_) | refine g_know Tk Tryz.func87 rfl (fun h2 => ?_) (fun h2 => ?_) | refine s_know Tk (fun h2 => ?_) (fun h2 => ?_)
    · have h2 : i < xu.length := by simpa using h2
      have hd : xu.drop i = xu[i] :: xu.drop (i + 1) := List.drop_eq_getElem_cons h2
      have hgu : (xu.map updI)[(i : Int).toNat]? = some (updI xu[i]) := get_mapZ h2
      have hm := List.getElem_mem h2
      generalize xu[i] = u at *
      have hux := hx3 u hm
      have hur := hur u hm
      obtain ⟨uv, ux⟩ := u
      simp only at hux hur
      obtain ⟨hu0, hu1, -⟩ := hur
      have huv : uv.toNat < m.vars.length := by omega
      have hgv : (m.vars.map vrI)[uv.toNat]? = some (vrI m.vars[uv.toNat]) := by simp [huv]
      rw [hd] at hno
      simp only [updR] at hno
      rw [List.getElem?_eq_getElem huv] at hno
      simp only at hno
      generalize m.vars[uv.toNat] = v at *
      obtain ⟨vn, vl, vh, vi'⟩ := v
      simp only at hno
      have bad : ((evalX ux sv).2 ≠ 0 ∨ (evalX ux sv).1 < vl ∨ (evalX ux sv).1 > vh) → R = (zeroS, false, 17) := fun h => by rw [← hno, if_pos h]
      have good : ¬ ((evalX ux sv).2 ≠ 0 ∨ (evalX ux sv).1 < vl ∨ (evalX ux sv).1 > vh) → (match updR m sv (xu.drop (i + 1)) (acc.set uv.toNat (evalX ux sv).1) with | none => (zeroS, false, 17) | some acc => (⟨xt, acc⟩, true, 0)) = R := fun h => by rw [← hno, if_neg h]
      clear hno
      first | refine g_need Tk Tryz.func87 (by omega) ?_ | refine s_need Tk (by omega) ?_
      first | refine g_elem Tk Tryz.func87 (hgu) ?_ | refine s_elem Tk (hgu) ?_
      first | refine g_call Tk Tryz.func87 (evaluate51A _ ux sv hux hlm) rfl rfl rfl rfl rfl ?_ | refine s_callq Tk (fun _ => evaluate51A _ ux sv hux hlm) rfl rfl rfl ?_
      generalize evalX ux sv = V at *
      obtain ⟨w, we⟩ := V
      simp only at bad good
      first | refine g_need Tk Tryz.func87 (by exact ⟨hu0, hu1⟩) ?_ | refine s_need Tk (by exact ⟨hu0, hu1⟩) ?_
      first | refine g_elem Tk Tryz.func87 (hgv) ?_ | refine s_elem Tk (hgv) ?_
      first | refine g_cnd Tk Tryz.func87 rfl (fun h3 => ?_) (fun h3 => ?_) | refine g_know Tk Tryz.func87 rfl (fun h3 => ?_) (fun h3 => ?_) | refine s_know Tk (fun h3 => ?_) (fun h3 => ?_)
      · have := bad (.inl (bneT h3))
        subst this
        repeat (first | refine g_cnd Tk Tryz.func87 rfl (fun _ => ?_) (fun h => absurd h (by decide)) | refine g_cnd Tk Tryz.func87 rfl (fun h => absurd h (by decide)) (fun _ => ?_) | refine g_know Tk Tryz.func87 rfl (fun _ => ?_) (fun h => absurd h (by decide)) | refine g_know Tk Tryz.func87 rfl (fun h => absurd h (by decide)) (fun _ => ?_) | refine s_know Tk (fun _ => ?_) (fun h => absurd h (by decide)) | refine s_know Tk (fun h => absurd h (by decide)) (fun _ => ?_))
        refine g_ret_co Tk (r := .tup [.agg [ii 0, .i (.v (.slice none 0 0))], bb false, ii 17]) rfl rfl rfl trivial rfl rfl ?_
        exact coZ
      have h3 := bneF h3
      first | refine g_cnd Tk Tryz.func87 rfl (fun h4 => ?_) (fun h4 => ?_) | refine g_know Tk Tryz.func87 rfl (fun h4 => ?_) (fun h4 => ?_) | refine s_know Tk (fun h4 => ?_) (fun h4 => ?_)
      · have := bad (.inr (.inl (of_decide_eq_true h4)))
        subst this
        repeat (first | refine g_cnd Tk Tryz.func87 rfl (fun _ => ?_) (fun h => absurd h (by decide)) | refine g_cnd Tk Tryz.func87 rfl (fun h => absurd h (by decide)) (fun _ => ?_) | refine g_know Tk Tryz.func87 rfl (fun _ => ?_) (fun h => absurd h (by decide)) | refine g_know Tk Tryz.func87 rfl (fun h => absurd h (by decide)) (fun _ => ?_) | refine s_know Tk (fun _ => ?_) (fun h => absurd h (by decide)) | refine s_know Tk (fun h => absurd h (by decide)) (fun _ => ?_))
        refine g_ret_co Tk (r := .tup [.agg [ii 0, .i (.v (.slice none 0 0))], bb false, ii 17]) rfl rfl rfl trivial rfl rfl ?_
        exact coZ
      have h4 : ¬ w < vl := of_decide_eq_false h4
      first | refine g_cnd Tk Tryz.func87 rfl (fun h5 => ?_) (fun h5 => ?_) | refine g_know Tk Tryz.func87 rfl (fun h5 => ?_) (fun h5 => ?_) | refine s_know Tk (fun h5 => ?_) (fun h5 => ?_)
      · have := bad (.inr (.inr (of_decide_eq_true h5)))
        subst this
        refine g_ret_co Tk (r := .tup [.agg [ii 0, .i (.v (.slice none 0 0))], bb false, ii 17]) rfl rfl rfl trivial rfl rfl ?_
        exact coZ
      have h5 : ¬ w > vh := of_decide_eq_false h5
      have good := good (by omega)
      first | refine g_need Tk Tryz.func87 (by exact ⟨hu0, by rw [hacc]; exact hu1⟩) ?_ | refine s_need Tk (by exact ⟨hu0, by rw [hacc]; exact hu1⟩) ?_
      refine g_loop ?_
      refine ih (i + 1, acc.set uv.toNat w) _ _ ⟨h2, by simp only [List.length_set]; exact hacc, good⟩ (by simp only; omega) ⟨rfl, rfl, rfl, rfl, rfl, rfl, congrArg ii (wsucc h2 hx2), trivial⟩ rfl ⟨rfl, ?_, rfl, rfl, rfl, trivial⟩ rfl rfl
      show some (Ob.arr 3 1 acc.length ((acc.map fun x => [vi x]).set uv.toNat [vi w]) true) = _
      simp [List.map_set]
    · have h2 : xu.length ≤ i := by simpa using h2
      rw [List.drop_eq_nil_of_le h2] at hno
      simp only [updR] at hno
      subst hno
      refine g_rwk (wk_freeze 38 rfl rfl) ?_
      refine g_rwk (wk_imm rfl) ?_
      refine g_ret Tk (r := .tup [.agg [ii xt, ints acc], bb true, ii 0]) rfl rfl rfl trivial rfl rfl ?_
      rfl
end Go.AI


namespace Go.AI
open Go.Proofs
set_option maxRecDepth 20000
/-- The text of a number. -/
def itoaB (n : Int) : ByteArray := ⟨(Lib.itoa n).toArray⟩
/-- The table that the library keeps. -/
def ptab (ty : TypeId) (fr : Nat × Nat) : Obj := .cells (Lib.pow10Tab.map fun z => Value.int .u64 z).toArray ty fr
theorem tabIs_of {name : String} {g : Nat} {ty : TypeId} {fr : Nat × Nat} {w : World} (hg : Tryz.prog.globalNamed name = some g) (h : w.heap[g]? = some (ptab ty fr)) : Lib.TabIs Tryz.prog w name .u64 Lib.pow10Tab := by
  simp only [Lib.TabIs, World.var?, hg, Option.bind_some, h, ptab]
/-- Which block it is. -/
def IsTab (g : Nat) : Prop := ∀ ty fr w, w.heap[g]? = some (ptab ty fr) → Lib.TabIs Tryz.prog w "internal/strconv.uint64pow10" .u64 Lib.pow10Tab
theorem itoa79 {g : Nat} (hg : IsTab g) {ty : TypeId} {fr : Nat × Nat} (O : List Heap) (n : Int) (h0 : -9223372036854775808 ≤ n) (h1 : n ≤ 9223372036854775807) : ASpecT g (ptab ty fr) Tryz.prog 75 [ii n] O (.i (.v (.string (itoaB n)))) [] O := by
  intro E K ρ w vs hw htab hrep
  obtain rfl : vs = [.int .i64 n] := by
    cases hrep with
    | cons r rs => cases rs; rw [inv_v r]
  refine .inl ⟨Tryz.call75 _ _, ?_⟩
  refine (Tryz.strconv_Itoa n h0 h1 w (hg ty fr w htab.1)).mono ?_
  rintro e w' ⟨rfl, k, os, rfl⟩
  obtain ⟨ρ1, hρ1, hI⟩ := hinv_enter hw
  obtain ⟨hI2, hst⟩ := HInv.grow (S := [] :: O) rfl hI (fun _ _ _ e => e) (fun _ h => by simp [look] at h) (grow_more hI k os)
  exact ⟨_, rfl, K, ρ1, hI2, .i (.v rfl)⟩
end Go.AI


namespace Go.AI
open Go.Proofs
set_option maxRecDepth 20000
theorem decDigits_len : ∀ (k u : Nat), u < 10 ^ (k + 1) → (Lib.decDigits u).length ≤ k + 1
  | 0, u, h => by
    unfold Lib.decDigits
    rw [dif_pos (by omega)]
    simp
  | k + 1, u, h => by
    unfold Lib.decDigits
    split
    · simp
    · rw [List.length_append]
      have := decDigits_len k (u / 10) (by rw [Nat.pow_succ] at h; omega)
      simp only [List.length_cons, List.length_nil]
      omega
theorem itoaB_size {n : Int} (h0 : -9223372036854775808 ≤ n) (h1 : n ≤ 9223372036854775807) : (itoaB n).size ≤ 21 := by
  show (Lib.itoa n).toArray.size ≤ 21
  simp only [List.size_toArray]
  unfold Lib.itoa
  split
  · have := decDigits_len 19 n.natAbs (by omega)
    simp only [List.length_cons]
    omega
  · have := decDigits_len 19 n.toNat (by omega)
    omega
abbrev i64B (n : Int) : Prop := -9223372036854775808 ≤ n ∧ n ≤ 9223372036854775807
end Go.AI
