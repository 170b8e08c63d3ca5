/- The layer of abstract runs, part 9. -/
import Derived.Test.YtbknncolmohdlaaDoorLayerH
set_option linter.unusedSimpArgs false
set_option linter.unusedVariables false
set_option linter.all false
namespace Go.AI
open Go.Proofs
set_option maxRecDepth 20000
/-- The type of an operation's result, by those of its arguments. -/
def kindOp (op : Int) (l : List Int) : Int :=
  if op = 0 ∨ op = 1 then 1 else
  if op = 2 ∨ op = 3 ∨ op = 4 ∨ op = 5 then (if l.all (· = 1) then 1 else 0) else
  if op = 6 ∨ op = 7 ∨ op = 8 ∨ op = 9 then (if l.all (· = 1) then 2 else 0) else
  if op = 10 ∨ op = 11 ∨ op = 12 then (if l.all (· = 2) then 2 else 0) else
  if op = 13 then (if l.getD 0 0 = 2 ∧ l.getD 1 0 = l.getD 2 0 then l.getD 1 0 else 0) else 0
mutual
def kindR : Ex → Int
  | .mk op _ _ args => match kindRs args with
    | some l => kindOp op l
    | none => 0
def kindRs : List Ex → Option (List Int)
  | [] => some []
  | e :: r => if kindR e = 0 then none else (kindRs r).map (kindR e :: ·)
end
theorem kindRs_len : ∀ {r : List Ex} {l : List Int}, kindRs r = some l → l.length = r.length
  | [], l, h => by simp only [kindRs, Option.some.injEq] at h; subst h; rfl
  | e :: r, l, h => by
    simp only [kindRs] at h
    split at h
    · cases h
    · cases hk : kindRs r with
      | none => simp [hk] at h
      | some l' =>
        simp only [hk, Option.map_some, Option.some.injEq] at h
        subst h
        simp [kindRs_len hk]
theorem ite_fst {p : Prop} [Decidable p] {a b : Int × Bool} (ha : a.1 ≤ 3) (hb : b.1 ≤ 3) : (if p then a else b).1 ≤ 3 := by
  split <;> assumption
theorem arity_le (op : Int) : (arity op).1 ≤ 3 := by
  unfold arity
  repeat' (refine ite_fst ?_ ?_)
  all_goals decide
theorem arity_cases {op : Int} (h : (arity op).2 = true) : (op = 0 ∨ op = 1) ∨ (op = 2 ∨ op = 3 ∨ op = 4 ∨ op = 5) ∨ (op = 6 ∨ op = 7 ∨ op = 8 ∨ op = 9) ∨ (op = 10 ∨ op = 11 ∨ op = 12) ∨ op = 13 := by
  by_cases hn : op = 0 ∨ op = 1 ∨ op = 2 ∨ op = 3 ∨ op = 4 ∨ op = 5 ∨ op = 6 ∨ op = 7 ∨ op = 8 ∨ op = 9 ∨ op = 10 ∨ op = 11 ∨ op = 12 ∨ op = 13
  · omega
  · unfold arity at h
    rw [if_neg (by omega), if_neg (by omega), if_neg (by omega), if_neg (by omega), if_neg (by omega), if_neg (by omega), if_neg (by omega), if_neg (by omega), if_neg (by omega), if_neg (by omega), if_neg (by omega), if_neg (by omega), if_neg (by omega), if_neg (by omega)] at h
    cases h
theorem formHead_zero {op v ix n : Int} {len : Nat} (h : formHead op v ix len n = 0) : (arity op).2 = true ∧ (len : Int) = (arity op).1 ∧ ¬ ((op ≠ 0 ∧ v ≠ 0) ∨ (op ≠ 1 ∧ ix ≠ 0)) ∧ ¬ ((op = 0 ∧ (65536 < v ∨ v < -65536)) ∨ (op = 1 ∧ (ix < 0 ∨ ix ≥ n))) := by
  unfold formHead at h
  by_cases h1 : (arity op).2 = false
  · rw [if_pos h1] at h; cases h
  rw [if_neg h1] at h
  by_cases h2 : (len : Int) ≠ (arity op).1
  · rw [if_pos h2] at h; cases h
  rw [if_neg h2] at h
  by_cases h3 : (op ≠ 0 ∧ v ≠ 0) ∨ (op ≠ 1 ∧ ix ≠ 0)
  · rw [if_pos h3] at h; cases h
  rw [if_neg h3] at h
  by_cases h4 : (op = 0 ∧ (65536 < v ∨ v < -65536)) ∨ (op = 1 ∧ (ix < 0 ∨ ix ≥ n))
  · rw [if_pos h4] at h; cases h
  exact ⟨by simpa using h1, by omega, h3, h4⟩
mutual
/-- Well-formed over n variables. -/
def wfE (n : Int) : Ex → Prop
  | .mk op v ix args => formHead op v ix args.length n = 0 ∧ wfEs n args
def wfEs (n : Int) : List Ex → Prop
  | [] => True
  | x :: xs => wfE n x ∧ wfEs n xs
end
theorem wfEs_mem {n : Int} : ∀ {l : List Ex}, wfEs n l → ∀ x ∈ l, wfE n x
  | [], _, x, h => by simp at h
  | y :: r, h, x, hx => by
    simp only [wfEs] at h
    rcases List.mem_cons.1 hx with rfl | hx
    · exact h.1
    · exact wfEs_mem h.2 x hx
mutual
theorem formR_wf : ∀ (x : Ex) (n lvl c : Int), (formR x n lvl c).1 = 0 → wfE n x
  | .mk op v ix args, n, lvl, c, h => by
    simp only [formR] at h
    split at h
    · cases h
    · split at h
      · rename_i h1; exact absurd h h1
      · rename_i h1
        exact ⟨by simpa using h1, formRs_wf args n _ _ h⟩
theorem formRs_wf : ∀ (l : List Ex) (n lvl c : Int), (formRs l n lvl c).1 = 0 → wfEs n l
  | [], n, lvl, c, _ => trivial
  | e :: r, n, lvl, c, h => by
    simp only [formRs] at h
    split at h
    · rename_i h1; exact absurd h h1
    · rename_i h1
      exact ⟨formR_wf e n lvl c (by simpa using h1), formRs_wf r n _ _ h⟩
end
theorem kindRs_take {args : List Ex} {i : Nat} {l : List Int} (h : i < args.length) (hl : kindRs (args.take i) = some l) : kindRs (args.take (i + 1)) = if kindR args[i] = 0 then none else some (l ++ [kindR args[i]]) := by
  induction args generalizing i l with
  | nil => simp at h
  | cons e r ih =>
    cases i with
    | zero =>
      simp only [List.take_zero, kindRs, Option.some.injEq] at hl
      subst hl
      simp [kindRs]
    | succ i =>
      simp only [List.take_succ_cons, kindRs] at hl ⊢
      split at hl
      · cases hl
      · rename_i h1
        rw [if_neg h1]
        cases hk : kindRs (r.take i) with
        | none => simp [hk] at hl
        | some l' =>
          simp only [hk, Option.map_some, Option.some.injEq] at hl
          subst hl
          rw [ih (by simpa using h) hk]
          simp only [List.getElem_cons_succ]
          split <;> simp
theorem kindRs_none {args : List Ex} {i : Nat} (hl : kindRs (args.take i) = none) : kindRs args = none := by
  induction args generalizing i with
  | nil => simpa using hl
  | cons e r ih =>
    cases i with
    | zero => simp [kindRs] at hl
    | succ i =>
      simp only [List.take_succ_cons, kindRs] at hl ⊢
      split at hl
      · rename_i h1; rw [if_pos h1]
      · rename_i h1
        rw [if_neg h1]
        cases hk : kindRs (r.take i) with
        | none => rw [ih hk]; rfl
        | some l => simp [hk] at hl
theorem oints_app (l : List Int) (k : Int) : Ob.arr 3 1 (l.length + 1) ((l.map fun x => [vi x]) ++ [[vi k]]) true = oints (l ++ [k]) := by
  simp
theorem kind85 (n : Int) : ∀ (N : Nat) (x : Ex), SizeOf.sizeOf x < N → wfE n x → ∀ O, ASpec Tryd.prog 85 [exD x] O (ii (kindR x)) [] O := by
  intro N
  induction N with
  | zero => intro x h; omega
  | succ N ihN =>
    intro x hs hwf O
    obtain ⟨op, v, ix, args⟩ := x
    simp only [wfE] at hwf
    obtain ⟨hform, hwf⟩ := hwf
    obtain ⟨ha, hb, -, -⟩ := formHead_zero hform
    have hch : ∀ e ∈ args, ∀ O, ASpec Tryd.prog 85 [exD e] O (ii (kindR e)) [] O := by
      intro e he O
      refine ihN e ?_ (wfEs_mem hwf e he) O
      have := List.sizeOf_lt_of_mem he
      simp only [Ex.mk.sizeOf_spec] at hs
      omega
    have hlen3 : args.length ≤ 3 := by have := arity_le op; omega
    have hlen : args.length ≤ max63 := by simp only [max63]; omega
    clear ihN hs
    generalize hR : kindR (.mk op v ix args) = R
    simp only [kindR] at hR
    refine aspec_stop [11] TrydT_ok Tryd.func85 rfl Tryd.call85 Tryd.ntmps85 (Nat.le_of_ble_eq_true rfl) fun E => ?_
    refine g_run TrydT_ok Tryd.func85 ?_
    apply join_q (P := fun l => kindRs args = some l) (s6 := fun l => { σ := [(1, .own 0 1 0 0), (3, .own 0 3 0 0), (7, .fn (.func 93) [] [.own 0 3 0 0])], S := [(3, .box [ints l]), (1, .box [ii op, ii v, ii ix, exs args])] :: O, n := 68 })
    · intro J
      refine g_loop ?_
      refine rch_wk (wk_nilbox 3 22 3 1 rfl rfl rfl) ?_
      refine rch_loop2 (fun x : Nat × List Int => [(1, .own 0 1 0 0), (3, .own 0 3 0 0), (9, exs args), (10, ii args.length), (11, ii x.1)]) (fun x => [(3, .box [.osl 0 22]), (22, oints x.2), (1, .box [ii op, ii v, ii ix, exs args])]) (fun _ => O) 68
        (fun x => x.1 ≤ args.length ∧ kindRs (args.take x.1) = some x.2) (fun x => args.length - x.1) (0, []) ⟨Nat.zero_le _, rfl⟩ ⟨rfl, rfl, rfl, rfl, rfl, trivial⟩ rfl ⟨rfl, rfl, rfl, trivial⟩ rfl rfl ?_
      rintro ⟨i, l⟩ ⟨hi, hno⟩ ih
      simp only at hi hno
      refine g_run TrydT_ok Tryd.func85 ?_
      first | refine g_cnd TrydT_ok Tryd.func85 rfl (fun h5 => ?_) (fun h5 => ?_) | refine g_know TrydT_ok Tryd.func85 rfl (fun h5 => ?_) (fun h5 => ?_) | refine s_know TrydT_ok (fun h5 => ?_) (fun h5 => ?_)
      · have h5 : i < args.length := by simpa using h5
        have hm := List.getElem_mem h5
        have hg := exIs_get h5
        have ht := kindRs_take h5 hno
        have hll := kindRs_len hno
        simp only [List.length_take, Nat.min_eq_left hi] at hll
        generalize args[i] = e at hm hg ht
        have hce := fun O => hch e hm O
        obtain ⟨eo, ev, ei, ea⟩ := e
        simp only [exI] at hg
        first | refine g_need TrydT_ok Tryd.func85 (by omega) ?_ | refine s_need TrydT_ok (by omega) ?_
        first | refine g_elem TrydT_ok Tryd.func85 (hg) ?_ | refine s_elem TrydT_ok (hg) ?_
        first | refine g_call TrydT_ok Tryd.func85 (hce _) rfl rfl rfl rfl rfl ?_ | refine s_call TrydT_ok (hce _) rfl rfl rfl ?_
        generalize kindR (.mk eo ev ei ea) = k at ht
        first | refine g_cnd TrydT_ok Tryd.func85 rfl (fun h6 => ?_) (fun h6 => ?_) | refine g_know TrydT_ok Tryd.func85 rfl (fun h6 => ?_) (fun h6 => ?_) | refine s_know TrydT_ok (fun h6 => ?_) (fun h6 => ?_)
        · have h6 := beqT h6
          rw [if_pos h6] at ht
          have := kindRs_none ht
          rw [this] at hR
          subst hR
          refine g_ret TrydT_ok (r := ii 0) rfl rfl rfl trivial rfl rfl ?_
          rfl
        · have h6 := beqF h6
          rw [if_neg h6] at ht
          first | refine g_need TrydT_ok Tryd.func85 (by exact ⟨by show (l.length + 1) * 8 ≤ 140737488355328; omega, by show l.length + 1 ≤ 9223372036854775807; omega⟩) ?_ | refine s_need TrydT_ok (by exact ⟨by show (l.length + 1) * 8 ≤ 140737488355328; omega, by show l.length + 1 ≤ 9223372036854775807; omega⟩) ?_
          refine g_loop ?_
          refine ih (i + 1, l ++ [k]) _ _ ⟨h5, ht⟩ (by simp only; omega) ⟨rfl, rfl, rfl, rfl, congrArg ii (wsucc h5 hlen), trivial⟩ rfl ⟨rfl, congrArg some (oints_app l k), rfl, trivial⟩ rfl rfl
      · have h5 : args.length ≤ i := by simpa using h5
        rw [List.take_of_length_le h5] at hno
        refine g_stop ?_
        refine rch_wk (wk_freeze 22 rfl rfl) ?_
        refine rch_wk (wk_imm rfl) ?_
        refine rch_cut2 (l := [(1, .own 0 1 0 0), (3, .own 0 3 0 0), (7, .fn (.func 93) [] [.own 0 3 0 0])]) (Hv := [(3, .box [ints l]), (1, .box [ii op, ii v, ii ix, exs args])]) ⟨rfl, rfl, rfl, trivial⟩ rfl ⟨rfl, rfl, trivial⟩ rfl rfl (J l hno)
    · intro l hl
      have hll := kindRs_len hl
      rw [hl] at hR
      simp only at hR
      have hlm : l.length ≤ max63 := by simp only [max63]; omega
      refine g_run TrydT_ok Tryd.func85 ?_
      refine g_go TrydT_ok Tryd.func85 ?_
      have hc := arity_cases ha
      have k1 := fun O d nm (ho : objAt O d nm = some (.box [ints l])) => kindb93 O 1 l d nm hlm ho
      have k2 := fun O d nm (ho : objAt O d nm = some (.box [ints l])) => kindb93 O 2 l d nm hlm ho
      have g1 : (op = 0 ∨ op = 1) → R = 1 := fun h => by rw [← hR]; unfold kindOp; rw [if_pos h]
      have g2 : (op = 2 ∨ op = 3 ∨ op = 4 ∨ op = 5) → R = if l.all (· = 1) then 1 else 0 := fun h => by rw [← hR]; unfold kindOp; rw [if_neg (by omega), if_pos h]
      have g3 : (op = 6 ∨ op = 7 ∨ op = 8 ∨ op = 9) → R = if l.all (· = 1) then 2 else 0 := fun h => by rw [← hR]; unfold kindOp; rw [if_neg (by omega), if_neg (by omega), if_pos h]
      have g4 : (op = 10 ∨ op = 11 ∨ op = 12) → R = if l.all (· = 2) then 2 else 0 := fun h => by rw [← hR]; unfold kindOp; rw [if_neg (by omega), if_neg (by omega), if_neg (by omega), if_pos h]
      have g5 : op = 13 → R = if l.getD 0 0 = 2 ∧ l.getD 1 0 = l.getD 2 0 then l.getD 1 0 else 0 := fun h => by rw [← hR]; unfold kindOp; rw [if_neg (by omega), if_neg (by omega), if_neg (by omega), if_neg (by omega), if_pos h]
      clear hR hform hch
      rcases hc with hc | hc | hc | hc | hc
      · have := g1 hc
        subst this
        clear g1 g2 g3 g4 g5
        rcases hc with rfl | rfl
        all_goals
          repeat (first | refine g_cnd TrydT_ok Tryd.func85 rfl (fun _ => ?_) (fun h => absurd h (by decide)) | refine g_cnd TrydT_ok Tryd.func85 rfl (fun h => absurd h (by decide)) (fun _ => ?_) | refine g_know TrydT_ok Tryd.func85 rfl (fun _ => ?_) (fun h => absurd h (by decide)) | refine g_know TrydT_ok Tryd.func85 rfl (fun h => absurd h (by decide)) (fun _ => ?_) | refine s_know TrydT_ok (fun _ => ?_) (fun h => absurd h (by decide)) | refine s_know TrydT_ok (fun h => absurd h (by decide)) (fun _ => ?_))
          refine g_ret TrydT_ok (r := ii 1) rfl rfl rfl trivial rfl rfl ?_
          rfl
      · have := g2 hc
        subst this
        clear g1 g2 g3 g4 g5
        rcases hc with rfl | rfl | rfl | rfl
        all_goals
          repeat (first | refine g_cnd TrydT_ok Tryd.func85 rfl (fun _ => ?_) (fun h => absurd h (by decide)) | refine g_cnd TrydT_ok Tryd.func85 rfl (fun h => absurd h (by decide)) (fun _ => ?_) | refine g_know TrydT_ok Tryd.func85 rfl (fun _ => ?_) (fun h => absurd h (by decide)) | refine g_know TrydT_ok Tryd.func85 rfl (fun h => absurd h (by decide)) (fun _ => ?_) | refine s_know TrydT_ok (fun _ => ?_) (fun h => absurd h (by decide)) | refine s_know TrydT_ok (fun h => absurd h (by decide)) (fun _ => ?_))
          first | refine g_call TrydT_ok Tryd.func85 (k1 _ _ _ rfl) rfl rfl rfl rfl rfl ?_ | refine s_call TrydT_ok (k1 _ _ _ rfl) rfl rfl rfl ?_
          first | refine g_cnd TrydT_ok Tryd.func85 rfl (fun h1 => ?_) (fun h1 => ?_) | refine g_know TrydT_ok Tryd.func85 rfl (fun h1 => ?_) (fun h1 => ?_) | refine s_know TrydT_ok (fun h1 => ?_) (fun h1 => ?_)
          · refine g_ret TrydT_ok (r := ii 1) rfl rfl rfl trivial rfl rfl ?_
            rw [if_pos h1]
          · repeat (first | refine g_cnd TrydT_ok Tryd.func85 rfl (fun _ => ?_) (fun h => absurd h (by decide)) | refine g_cnd TrydT_ok Tryd.func85 rfl (fun h => absurd h (by decide)) (fun _ => ?_) | refine g_know TrydT_ok Tryd.func85 rfl (fun _ => ?_) (fun h => absurd h (by decide)) | refine g_know TrydT_ok Tryd.func85 rfl (fun h => absurd h (by decide)) (fun _ => ?_) | refine s_know TrydT_ok (fun _ => ?_) (fun h => absurd h (by decide)) | refine s_know TrydT_ok (fun h => absurd h (by decide)) (fun _ => ?_))
            refine g_ret TrydT_ok (r := ii 0) rfl rfl rfl trivial rfl rfl ?_
            rw [h1]; rfl
      · have := g3 hc
        subst this
        clear g1 g2 g3 g4 g5
        rcases hc with rfl | rfl | rfl | rfl
        all_goals
          repeat (first | refine g_cnd TrydT_ok Tryd.func85 rfl (fun _ => ?_) (fun h => absurd h (by decide)) | refine g_cnd TrydT_ok Tryd.func85 rfl (fun h => absurd h (by decide)) (fun _ => ?_) | refine g_know TrydT_ok Tryd.func85 rfl (fun _ => ?_) (fun h => absurd h (by decide)) | refine g_know TrydT_ok Tryd.func85 rfl (fun h => absurd h (by decide)) (fun _ => ?_) | refine s_know TrydT_ok (fun _ => ?_) (fun h => absurd h (by decide)) | refine s_know TrydT_ok (fun h => absurd h (by decide)) (fun _ => ?_))
          first | refine g_call TrydT_ok Tryd.func85 (k1 _ _ _ rfl) rfl rfl rfl rfl rfl ?_ | refine s_call TrydT_ok (k1 _ _ _ rfl) rfl rfl rfl ?_
          first | refine g_cnd TrydT_ok Tryd.func85 rfl (fun h1 => ?_) (fun h1 => ?_) | refine g_know TrydT_ok Tryd.func85 rfl (fun h1 => ?_) (fun h1 => ?_) | refine s_know TrydT_ok (fun h1 => ?_) (fun h1 => ?_)
          · refine g_ret TrydT_ok (r := ii 2) rfl rfl rfl trivial rfl rfl ?_
            rw [if_pos h1]
          · repeat (first | refine g_cnd TrydT_ok Tryd.func85 rfl (fun _ => ?_) (fun h => absurd h (by decide)) | refine g_cnd TrydT_ok Tryd.func85 rfl (fun h => absurd h (by decide)) (fun _ => ?_) | refine g_know TrydT_ok Tryd.func85 rfl (fun _ => ?_) (fun h => absurd h (by decide)) | refine g_know TrydT_ok Tryd.func85 rfl (fun h => absurd h (by decide)) (fun _ => ?_) | refine s_know TrydT_ok (fun _ => ?_) (fun h => absurd h (by decide)) | refine s_know TrydT_ok (fun h => absurd h (by decide)) (fun _ => ?_))
            refine g_ret TrydT_ok (r := ii 0) rfl rfl rfl trivial rfl rfl ?_
            rw [h1]; rfl
      · have := g4 hc
        subst this
        clear g1 g2 g3 g4 g5
        rcases hc with rfl | rfl | rfl
        all_goals
          repeat (first | refine g_cnd TrydT_ok Tryd.func85 rfl (fun _ => ?_) (fun h => absurd h (by decide)) | refine g_cnd TrydT_ok Tryd.func85 rfl (fun h => absurd h (by decide)) (fun _ => ?_) | refine g_know TrydT_ok Tryd.func85 rfl (fun _ => ?_) (fun h => absurd h (by decide)) | refine g_know TrydT_ok Tryd.func85 rfl (fun h => absurd h (by decide)) (fun _ => ?_) | refine s_know TrydT_ok (fun _ => ?_) (fun h => absurd h (by decide)) | refine s_know TrydT_ok (fun h => absurd h (by decide)) (fun _ => ?_))
          first | refine g_call TrydT_ok Tryd.func85 (k2 _ _ _ rfl) rfl rfl rfl rfl rfl ?_ | refine s_call TrydT_ok (k2 _ _ _ rfl) rfl rfl rfl ?_
          first | refine g_cnd TrydT_ok Tryd.func85 rfl (fun h1 => ?_) (fun h1 => ?_) | refine g_know TrydT_ok Tryd.func85 rfl (fun h1 => ?_) (fun h1 => ?_) | refine s_know TrydT_ok (fun h1 => ?_) (fun h1 => ?_)
          · refine g_ret TrydT_ok (r := ii 2) rfl rfl rfl trivial rfl rfl ?_
            rw [if_pos h1]
          · repeat (first | refine g_cnd TrydT_ok Tryd.func85 rfl (fun _ => ?_) (fun h => absurd h (by decide)) | refine g_cnd TrydT_ok Tryd.func85 rfl (fun h => absurd h (by decide)) (fun _ => ?_) | refine g_know TrydT_ok Tryd.func85 rfl (fun _ => ?_) (fun h => absurd h (by decide)) | refine g_know TrydT_ok Tryd.func85 rfl (fun h => absurd h (by decide)) (fun _ => ?_) | refine s_know TrydT_ok (fun _ => ?_) (fun h => absurd h (by decide)) | refine s_know TrydT_ok (fun h => absurd h (by decide)) (fun _ => ?_))
            refine g_ret TrydT_ok (r := ii 0) rfl rfl rfl trivial rfl rfl ?_
            rw [h1]; rfl
      · have := g5 hc
        subst this
        clear g1 g2 g3 g4 g5
        subst hc
        have h3 : l.length = 3 := by rw [hll]; have : (args.length : Int) = 3 := hb; omega
        obtain ⟨a, l, rfl⟩ : ∃ a r, l = a :: r := by cases l with | nil => simp at h3 | cons a r => exact ⟨_, _, rfl⟩
        obtain ⟨b, l, rfl⟩ : ∃ a r, l = a :: r := by cases l with | nil => simp at h3 | cons a r => exact ⟨_, _, rfl⟩
        obtain ⟨e, l, rfl⟩ : ∃ a r, l = a :: r := by cases l with | nil => simp at h3 | cons a r => exact ⟨_, _, rfl⟩
        obtain rfl : l = [] := List.eq_nil_of_length_eq_zero (by simpa using h3)
        repeat (first | refine g_cnd TrydT_ok Tryd.func85 rfl (fun _ => ?_) (fun h => absurd h (by decide)) | refine g_cnd TrydT_ok Tryd.func85 rfl (fun h => absurd h (by decide)) (fun _ => ?_) | refine g_know TrydT_ok Tryd.func85 rfl (fun _ => ?_) (fun h => absurd h (by decide)) | refine g_know TrydT_ok Tryd.func85 rfl (fun h => absurd h (by decide)) (fun _ => ?_) | refine s_know TrydT_ok (fun _ => ?_) (fun h => absurd h (by decide)) | refine s_know TrydT_ok (fun h => absurd h (by decide)) (fun _ => ?_))
        refine g_drawn TrydT_ok Tryd.func85 mixedT rfl ?_
        first | refine g_need TrydT_ok Tryd.func85 (by simp) ?_ | refine s_need TrydT_ok (by simp) ?_
        first | refine g_elem TrydT_ok Tryd.func85 (rfl) ?_ | refine s_elem TrydT_ok (rfl) ?_
        first | refine g_cnd TrydT_ok Tryd.func85 rfl (fun h1 => ?_) (fun h1 => ?_) | refine g_know TrydT_ok Tryd.func85 rfl (fun h1 => ?_) (fun h1 => ?_) | refine s_know TrydT_ok (fun h1 => ?_) (fun h1 => ?_)
        · have h1 := beqT h1
          first | refine g_need TrydT_ok Tryd.func85 (by simp) ?_ | refine s_need TrydT_ok (by simp) ?_
          first | refine g_elem TrydT_ok Tryd.func85 (rfl) ?_ | refine s_elem TrydT_ok (rfl) ?_
          first | refine g_need TrydT_ok Tryd.func85 (by simp) ?_ | refine s_need TrydT_ok (by simp) ?_
          first | refine g_elem TrydT_ok Tryd.func85 (rfl) ?_ | refine s_elem TrydT_ok (rfl) ?_
          refine e_done TrydT_ok Tryd.func85 (by kernel_rfl) ?_
          first | refine g_cnd TrydT_ok Tryd.func85 rfl (fun h2 => ?_) (fun h2 => ?_) | refine g_know TrydT_ok Tryd.func85 rfl (fun h2 => ?_) (fun h2 => ?_) | refine s_know TrydT_ok (fun h2 => ?_) (fun h2 => ?_)
          · have h2 := beqT h2
            first | refine g_need TrydT_ok Tryd.func85 (by simp) ?_ | refine s_need TrydT_ok (by simp) ?_
            first | refine g_elem TrydT_ok Tryd.func85 (rfl) ?_ | refine s_elem TrydT_ok (rfl) ?_
            refine g_ret TrydT_ok (r := ii b) rfl rfl rfl trivial rfl rfl ?_
            simp [h1, h2]
          · have h2 := beqF h2
            refine g_ret TrydT_ok (r := ii 0) rfl rfl rfl trivial rfl rfl ?_
            simp [h1, h2]
        · have h1 := beqF h1
          refine e_done TrydT_ok Tryd.func85 (by kernel_rfl) ?_
          repeat (first | refine g_cnd TrydT_ok Tryd.func85 rfl (fun _ => ?_) (fun h => absurd h (by decide)) | refine g_cnd TrydT_ok Tryd.func85 rfl (fun h => absurd h (by decide)) (fun _ => ?_) | refine g_know TrydT_ok Tryd.func85 rfl (fun _ => ?_) (fun h => absurd h (by decide)) | refine g_know TrydT_ok Tryd.func85 rfl (fun h => absurd h (by decide)) (fun _ => ?_) | refine s_know TrydT_ok (fun _ => ?_) (fun h => absurd h (by decide)) | refine s_know TrydT_ok (fun h => absurd h (by decide)) (fun _ => ?_))
          refine g_ret TrydT_ok (r := ii 0) rfl rfl rfl trivial rfl rfl ?_
          simp [h1]
end Go.AI

namespace Go.AI
open Go.Proofs
set_option maxRecDepth 20000
abbrev tr (p : Prop) [Decidable p] : Int := if p then 1 else 0
/-- The result of an operation with two arguments. -/
def ap2 (op a b : Int) : Int :=
  if op = 2 then a + b else if op = 3 then a - b else if op = 4 then a * b else
  if op = 6 then tr (a = b) else if op = 7 then tr (a ≠ b) else if op = 8 then tr (a < b) else if op = 9 then tr (a ≤ b) else
  if op = 11 then a * b else if a = 0 then b else a
def ap1 (op a : Int) : Int := if op = 5 then -a else 1 - a
def applyR (op : Int) : List Int → Int
  | [a] => ap1 op a
  | [a, b] => ap2 op a b
  | _ => 0
theorem mulb {a b : Int} (ha : -1073741824 ≤ a ∧ a ≤ 1073741824) (hb : -1073741824 ≤ b ∧ b ≤ 1073741824) : -1152921504606846976 ≤ a * b ∧ a * b ≤ 1152921504606846976 := by
  have h1 : (a.natAbs * b.natAbs) ≤ 1073741824 * 1073741824 := Nat.mul_le_mul (by omega) (by omega)
  have h2 : (a * b).natAbs = a.natAbs * b.natAbs := Int.natAbs_mul a b
  omega
theorem apply2 (O : List Heap) (op a b : Int) (hop : op = 2 ∨ op = 3 ∨ op = 4 ∨ op = 6 ∨ op = 7 ∨ op = 8 ∨ op = 9 ∨ op = 11 ∨ op = 12) (ha : -1073741824 ≤ a ∧ a ≤ 1073741824) (hb : -1073741824 ≤ b ∧ b ≤ 1073741824)
    (hl : op = 11 ∨ op = 12 → (a = 0 ∨ a = 1) ∧ (b = 0 ∨ b = 1)) : ASpec Tryd.prog 87 [ii op, ints [a, b]] O (ii (ap2 op a b)) [] O := by
  have hm := mulb ha hb
  refine aspec_intro TrydT_ok Tryd.func87 rfl Tryd.call87 Tryd.ntmps87 (Nat.le_of_ble_eq_true rfl) fun E => ?_
  refine g_run TrydT_ok Tryd.func87 ?_
  rcases hop with rfl | rfl | rfl | rfl | rfl | rfl | rfl | rfl | rfl
  all_goals
    repeat (first | refine g_cnd TrydT_ok Tryd.func87 rfl (fun _ => ?_) (fun h => absurd h (by decide)) | refine g_cnd TrydT_ok Tryd.func87 rfl (fun h => absurd h (by decide)) (fun _ => ?_) | refine g_know TrydT_ok Tryd.func87 rfl (fun _ => ?_) (fun h => absurd h (by decide)) | refine g_know TrydT_ok Tryd.func87 rfl (fun h => absurd h (by decide)) (fun _ => ?_) | refine s_know TrydT_ok (fun _ => ?_) (fun h => absurd h (by decide)) | refine s_know TrydT_ok (fun h => absurd h (by decide)) (fun _ => ?_))
    refine g_drawn TrydT_ok Tryd.func87 mixedT rfl ?_
    first | refine g_need TrydT_ok Tryd.func87 (by simp) ?_ | refine s_need TrydT_ok (by simp) ?_
    first | refine g_elem TrydT_ok Tryd.func87 (rfl) ?_ | refine s_elem TrydT_ok (rfl) ?_
    first | refine g_need TrydT_ok Tryd.func87 (by simp) ?_ | refine s_need TrydT_ok (by simp) ?_
    first | refine g_elem TrydT_ok Tryd.func87 (rfl) ?_ | refine s_elem TrydT_ok (rfl) ?_
  · refine e_done TrydT_ok Tryd.func87 (by kernel_rfl) ?_
    refine g_ret TrydT_ok (r := ii _) rfl rfl rfl trivial rfl rfl ?_
    exact congrArg ii (w64 (by omega) (by omega))
  · refine e_done TrydT_ok Tryd.func87 (by kernel_rfl) ?_
    refine g_ret TrydT_ok (r := ii _) rfl rfl rfl trivial rfl rfl ?_
    exact congrArg ii (w64 (by omega) (by omega))
  · refine e_done TrydT_ok Tryd.func87 (by kernel_rfl) ?_
    refine g_ret TrydT_ok (r := ii _) rfl rfl rfl trivial rfl rfl ?_
    exact congrArg ii (w64 (by omega) (by omega))
  · first | refine g_call TrydT_ok Tryd.func87 (truth95 _ _) rfl rfl rfl rfl rfl ?_ | refine s_call TrydT_ok (truth95 _ _) rfl rfl rfl ?_
    refine e_done TrydT_ok Tryd.func87 (by kernel_rfl) ?_
    refine g_ret TrydT_ok (r := ii _) rfl rfl rfl trivial rfl rfl ?_
    by_cases h : a = b <;> simp [ap2, tr, h]
  · first | refine g_call TrydT_ok Tryd.func87 (truth95 _ _) rfl rfl rfl rfl rfl ?_ | refine s_call TrydT_ok (truth95 _ _) rfl rfl rfl ?_
    refine e_done TrydT_ok Tryd.func87 (by kernel_rfl) ?_
    refine g_ret TrydT_ok (r := ii _) rfl rfl rfl trivial rfl rfl ?_
    by_cases h : a = b <;> simp [ap2, tr, h]
  · first | refine g_call TrydT_ok Tryd.func87 (truth95 _ _) rfl rfl rfl rfl rfl ?_ | refine s_call TrydT_ok (truth95 _ _) rfl rfl rfl ?_
    refine e_done TrydT_ok Tryd.func87 (by kernel_rfl) ?_
    refine g_ret TrydT_ok (r := ii _) rfl rfl rfl trivial rfl rfl ?_
    by_cases h : a < b <;> simp [ap2, tr, h]
  · first | refine g_call TrydT_ok Tryd.func87 (truth95 _ _) rfl rfl rfl rfl rfl ?_ | refine s_call TrydT_ok (truth95 _ _) rfl rfl rfl ?_
    refine e_done TrydT_ok Tryd.func87 (by kernel_rfl) ?_
    refine g_ret TrydT_ok (r := ii _) rfl rfl rfl trivial rfl rfl ?_
    by_cases h : a ≤ b <;> simp [ap2, tr, h]
  · refine e_done TrydT_ok Tryd.func87 (by kernel_rfl) ?_
    refine g_ret TrydT_ok (r := ii _) rfl rfl rfl trivial rfl rfl ?_
    obtain ⟨rfl | rfl, rfl | rfl⟩ := hl (.inl rfl) <;> rfl
  · refine e_done TrydT_ok Tryd.func87 (by kernel_rfl) ?_
    refine g_ret TrydT_ok (r := ii _) rfl rfl rfl trivial rfl rfl ?_
    obtain ⟨rfl | rfl, rfl | rfl⟩ := hl (.inr rfl) <;> rfl
theorem apply1 (O : List Heap) (op a : Int) (hop : op = 5 ∨ op = 10) (ha : -1073741824 ≤ a ∧ a ≤ 1073741824) : ASpec Tryd.prog 87 [ii op, ints [a]] O (ii (ap1 op a)) [] O := by
  refine aspec_intro TrydT_ok Tryd.func87 rfl Tryd.call87 Tryd.ntmps87 (Nat.le_of_ble_eq_true rfl) fun E => ?_
  refine g_run TrydT_ok Tryd.func87 ?_
  rcases hop with rfl | rfl
  all_goals
    repeat (first | refine g_cnd TrydT_ok Tryd.func87 rfl (fun _ => ?_) (fun h => absurd h (by decide)) | refine g_cnd TrydT_ok Tryd.func87 rfl (fun h => absurd h (by decide)) (fun _ => ?_) | refine g_know TrydT_ok Tryd.func87 rfl (fun _ => ?_) (fun h => absurd h (by decide)) | refine g_know TrydT_ok Tryd.func87 rfl (fun h => absurd h (by decide)) (fun _ => ?_) | refine s_know TrydT_ok (fun _ => ?_) (fun h => absurd h (by decide)) | refine s_know TrydT_ok (fun h => absurd h (by decide)) (fun _ => ?_))
    first | refine g_need TrydT_ok Tryd.func87 (by simp) ?_ | refine s_need TrydT_ok (by simp) ?_
    first | refine g_elem TrydT_ok Tryd.func87 (rfl) ?_ | refine s_elem TrydT_ok (rfl) ?_
    refine g_ret TrydT_ok (r := ii _) rfl rfl rfl trivial rfl rfl ?_
  · exact congrArg ii ((w64 (by omega) (by omega)).trans (Int.zero_sub a))
  · exact congrArg ii (w64 (by omega) (by omega))
/-- Check: the type, or the first error. -/
def checkX (x : Ex) (n : Int) : Int × Int :=
  if n < 0 ∨ n > 16 then (0, 2) else if (formR x n 1 0).1 ≠ 0 then (0, (formR x n 1 0).1) else if kindR x = 0 then (0, 16) else (kindR x, 0)
theorem exD_mk (x : Ex) : ∃ op v ix args, x = .mk op v ix args := by cases x; exact ⟨_, _, _, _, rfl⟩
theorem check67 (O : List Heap) (x : Ex) (n : Int) (hok : exOk x) : ASpec Tryd.prog 67 [exD x, ii n] O (.tup [ii (checkX x n).1, ii (checkX x n).2]) [] O := by
  have hf := fun O ho => formed84 (SizeOf.sizeOf x + 1) x (by omega) hok O 0 6 n 1 0 ho (by omega) (by omega) (by omega) (by omega)
  have hk := fun hw O => kind85 n (SizeOf.sizeOf x + 1) x (by omega) hw O
  generalize hR : checkX x n = R
  unfold checkX at hR
  have hwf := formR_wf x n 1 0
  obtain ⟨op, v, ix, args⟩ := x
  refine aspec_intro TrydT_ok Tryd.func67 rfl Tryd.call67 Tryd.ntmps67 (Nat.le_of_ble_eq_true rfl) fun E => ?_
  refine g_run TrydT_ok Tryd.func67 ?_
  first | refine g_cnd TrydT_ok Tryd.func67 rfl (fun h1 => ?_) (fun h1 => ?_) | refine g_know TrydT_ok Tryd.func67 rfl (fun h1 => ?_) (fun h1 => ?_) | refine s_know TrydT_ok (fun h1 => ?_) (fun h1 => ?_)
  · have h1 : n < 0 := of_decide_eq_true h1
    rw [if_pos (.inl h1)] at hR
    subst hR
    repeat (first | refine g_cnd TrydT_ok Tryd.func67 rfl (fun _ => ?_) (fun h => absurd h (by decide)) | refine g_cnd TrydT_ok Tryd.func67 rfl (fun h => absurd h (by decide)) (fun _ => ?_) | refine g_know TrydT_ok Tryd.func67 rfl (fun _ => ?_) (fun h => absurd h (by decide)) | refine g_know TrydT_ok Tryd.func67 rfl (fun h => absurd h (by decide)) (fun _ => ?_) | refine s_know TrydT_ok (fun _ => ?_) (fun h => absurd h (by decide)) | refine s_know TrydT_ok (fun h => absurd h (by decide)) (fun _ => ?_))
    refine g_ret TrydT_ok (r := .tup [ii 0, ii 2]) rfl rfl rfl trivial rfl rfl ?_
    rfl
  · have h1 : ¬ n < 0 := of_decide_eq_false h1
    first | refine g_cnd TrydT_ok Tryd.func67 rfl (fun h2 => ?_) (fun h2 => ?_) | refine g_know TrydT_ok Tryd.func67 rfl (fun h2 => ?_) (fun h2 => ?_) | refine s_know TrydT_ok (fun h2 => ?_) (fun h2 => ?_)
    · have h2 : 16 < n := of_decide_eq_true h2
      rw [if_pos (.inr h2)] at hR
      subst hR
      refine g_ret TrydT_ok (r := .tup [ii 0, ii 2]) rfl rfl rfl trivial rfl rfl ?_
      rfl
    · have h2 : ¬ 16 < n := of_decide_eq_false h2
      rw [if_neg (by omega)] at hR
      refine g_call TrydT_ok Tryd.func67 (hf _ rfl) rfl rfl rfl (shape_over (ob := .box [ii 0]) rfl rfl) rfl ?_
      generalize formR (.mk op v ix args) n 1 0 = Q at hR hwf
      first | refine g_cnd TrydT_ok Tryd.func67 rfl (fun h3 => ?_) (fun h3 => ?_) | refine g_know TrydT_ok Tryd.func67 rfl (fun h3 => ?_) (fun h3 => ?_) | refine s_know TrydT_ok (fun h3 => ?_) (fun h3 => ?_)
      · have h3 := bneT h3
        rw [if_pos h3] at hR
        subst hR
        refine g_ret TrydT_ok (r := .tup [ii 0, ii _]) rfl rfl rfl trivial rfl rfl ?_
        rfl
      · have h3 := bneF h3
        rw [if_neg (by simpa using h3)] at hR
        first | refine g_call TrydT_ok Tryd.func67 (hk (hwf h3) _) rfl rfl rfl rfl rfl ?_ | refine s_call TrydT_ok (hk (hwf h3) _) rfl rfl rfl ?_
        generalize kindR (.mk op v ix args) = k at hR
        first | refine g_cnd TrydT_ok Tryd.func67 rfl (fun h4 => ?_) (fun h4 => ?_) | refine g_know TrydT_ok Tryd.func67 rfl (fun h4 => ?_) (fun h4 => ?_) | refine s_know TrydT_ok (fun h4 => ?_) (fun h4 => ?_)
        · have h4 := beqT h4
          rw [if_pos h4] at hR
          subst hR
          refine g_ret TrydT_ok (r := .tup [ii 0, ii 16]) rfl rfl rfl trivial rfl rfl ?_
          rfl
        · have h4 := beqF h4
          rw [if_neg h4] at hR
          subst hR
          refine g_ret TrydT_ok (r := .tup [ii _, ii 0]) rfl rfl rfl trivial rfl rfl ?_
          rfl
/-- The error of an expression that should have a type. -/
def typedX (x : Ex) (n kind : Int) : Int := if (checkX x n).2 = 0 ∧ (checkX x n).1 ≠ kind then 16 else (checkX x n).2
theorem checkExpr78 (O : List Heap) (x : Ex) (n k : Int) (hok : exOk x) : ASpec Tryd.prog 78 [exD x, ii n, ii k] O (ii (typedX x n k)) [] O := by
  have hc := fun O => check67 O x n hok
  unfold typedX
  obtain ⟨op, v, ix, args⟩ := x
  generalize checkX (.mk op v ix args) n = R at *
  refine aspec_intro TrydT_ok Tryd.func78 rfl Tryd.call78 Tryd.ntmps78 (Nat.le_of_ble_eq_true rfl) fun E => ?_
  refine g_run TrydT_ok Tryd.func78 ?_
  first | refine g_call TrydT_ok Tryd.func78 (hc _) rfl rfl rfl rfl rfl ?_ | refine s_call TrydT_ok (hc _) rfl rfl rfl ?_
  first | refine g_cnd TrydT_ok Tryd.func78 rfl (fun h1 => ?_) (fun h1 => ?_) | refine g_know TrydT_ok Tryd.func78 rfl (fun h1 => ?_) (fun h1 => ?_) | refine s_know TrydT_ok (fun h1 => ?_) (fun h1 => ?_)
  · have h1 := beqT h1
    first | refine g_cnd TrydT_ok Tryd.func78 rfl (fun h2 => ?_) (fun h2 => ?_) | refine g_know TrydT_ok Tryd.func78 rfl (fun h2 => ?_) (fun h2 => ?_) | refine s_know TrydT_ok (fun h2 => ?_) (fun h2 => ?_)
    · have h2 := bneT h2
      rw [if_pos ⟨h1, h2⟩]
      refine g_ret TrydT_ok (r := ii 16) rfl rfl rfl trivial rfl rfl ?_
      rfl
    · have h2 := bneF h2
      rw [if_neg (by simp [h1, h2])]
      refine g_ret TrydT_ok (r := ii _) rfl rfl rfl trivial rfl rfl ?_
      rfl
  · have h1 := beqF h1
    rw [if_neg (by simp [h1])]
    repeat (first | refine g_cnd TrydT_ok Tryd.func78 rfl (fun _ => ?_) (fun h => absurd h (by decide)) | refine g_cnd TrydT_ok Tryd.func78 rfl (fun h => absurd h (by decide)) (fun _ => ?_) | refine g_know TrydT_ok Tryd.func78 rfl (fun _ => ?_) (fun h => absurd h (by decide)) | refine g_know TrydT_ok Tryd.func78 rfl (fun h => absurd h (by decide)) (fun _ => ?_) | refine s_know TrydT_ok (fun _ => ?_) (fun h => absurd h (by decide)) | refine s_know TrydT_ok (fun h => absurd h (by decide)) (fun _ => ?_))
    refine g_ret TrydT_ok (r := ii _) rfl rfl rfl trivial rfl rfl ?_
    rfl
end Go.AI

namespace Go.AI
open Go.Proofs
set_option maxRecDepth 20000
abbrev largeB (a b : Int) : Bool := decide (b < a) || decide (a < -b)
mutual
/-- The value of an expression; false if it overflows. -/
def evalR (vals : List Int) : Ex → Int × Bool
  | .mk op v ix args =>
    if op = 0 then (v, true) else if op = 1 then (vals.getD ix.toNat 0, true) else if op = 13 then evalI vals args else
    match evalRs vals args with
    | none => (0, false)
    | some l => (applyR op l, !largeB (applyR op l) 1073741824)
def evalI (vals : List Int) : List Ex → Int × Bool
  | [c, a, b] => if (evalR vals c).2 = false then (0, false) else if (evalR vals c).1 = 1 then evalR vals a else evalR vals b
  | _ => (0, false)
def evalRs (vals : List Int) : List Ex → Option (List Int)
  | [] => some []
  | e :: r => if (evalR vals e).2 = false then none else (evalRs vals r).map ((evalR vals e).1 :: ·)
end
/-- Values, of types. -/
def Ty2 : List Int → List Int → Prop
  | [], [] => True
  | x :: xs, k :: ks => (-1073741824 ≤ x ∧ x ≤ 1073741824) ∧ (k = 2 → x = 0 ∨ x = 1) ∧ Ty2 xs ks
  | _, _ => False
theorem tr01 (p : Prop) [Decidable p] : tr p = 0 ∨ tr p = 1 := by unfold tr; split <;> simp
theorem largeB_false {a b : Int} (h : (!largeB a b) = true) : -b ≤ a ∧ a ≤ b := by
  have := orF (notT h)
  omega
theorem kind_app {op : Int} {ks l : List Int} (ha : (arity op).2 = true) (h0 : op ≠ 0) (h1 : op ≠ 1) (h13 : op ≠ 13) (hlen : (ks.length : Int) = (arity op).1) (ht : Ty2 l ks) (hk : kindOp op ks = 2) : applyR op l = 0 ∨ applyR op l = 1 := by
  have two : ∀ {p : Nat}, (ks.length : Int) = 2 → ∃ a b k1 k2, l = [a, b] ∧ ks = [k1, k2] := by
    intro _ h
    match ks, l, ht with
    | [], _, _ => simp at h
    | [_], _, _ => simp at h
    | [k1, k2], [a, b], _ => exact ⟨a, b, k1, k2, rfl, rfl⟩
    | _ :: _ :: _ :: _, _, _ => simp at h; omega
  have one : (ks.length : Int) = 1 → ∃ a k1, l = [a] ∧ ks = [k1] := by
    intro h
    match ks, l, ht with
    | [], _, _ => simp at h
    | [k1], [a], _ => exact ⟨a, k1, rfl, rfl⟩
    | _ :: _ :: _, _, _ => simp at h; omega
  rcases arity_cases ha with h | h | h | h | h
  · omega
  · unfold kindOp at hk
    rw [if_neg (by omega), if_pos h] at hk
    split at hk <;> cases hk
  · obtain ⟨a, b, k1, k2, rfl, rfl⟩ := two (p := 0) (by rcases h with rfl | rfl | rfl | rfl <;> exact hlen)
    rcases h with rfl | rfl | rfl | rfl <;> exact tr01 _
  · unfold kindOp at hk
    rw [if_neg (by omega), if_neg (by omega), if_neg (by omega), if_pos h] at hk
    split at hk
    · rename_i hall
      rcases h with rfl | rfl | rfl
      · obtain ⟨a, k1, rfl, rfl⟩ := one hlen
        simp only [List.all_cons, List.all_nil, Bool.and_true, decide_eq_true_eq] at hall
        obtain ⟨-, h2, -⟩ := ht
        rcases h2 hall with rfl | rfl <;> decide
      all_goals
        obtain ⟨a, b, k1, k2, rfl, rfl⟩ := two (p := 0) hlen
        simp only [List.all_cons, List.all_nil, Bool.and_true, Bool.and_eq_true, decide_eq_true_eq] at hall
        obtain ⟨-, h2, -, h3, -⟩ := ht
        rcases h2 hall.1 with rfl | rfl <;> rcases h3 hall.2 with rfl | rfl <;> decide
    · cases hk
  · omega
theorem kindOp_ite {ks : List Int} (h : kindOp 13 ks ≠ 0) : ks.getD 0 0 = 2 ∧ ks.getD 1 0 = ks.getD 2 0 ∧ kindOp 13 ks = ks.getD 1 0 := by
  unfold kindOp at h ⊢
  rw [if_neg (by omega), if_neg (by omega), if_neg (by omega), if_neg (by omega), if_pos rfl] at h ⊢
  split at h
  · rename_i h1
    exact ⟨h1.1, h1.2, by rw [if_pos h1]⟩
  · exact absurd rfl h
theorem kindRs_nz {args : List Ex} {ks : List Int} (h : kindRs args = some ks) : ∀ e ∈ args, kindR e ≠ 0 := by
  induction args generalizing ks with
  | nil => simp
  | cons e r ih =>
    simp only [kindRs] at h
    split at h
    · cases h
    · rename_i h1
      cases hk : kindRs r with
      | none => simp [hk] at h
      | some l =>
        intro x hx
        rcases List.mem_cons.1 hx with rfl | hx
        · exact h1
        · exact ih hk x hx
theorem evalRs_len {vals : List Int} {args : List Ex} {l : List Int} (h : evalRs vals args = some l) : l.length = args.length := by
  induction args generalizing l with
  | nil => simp only [evalRs, Option.some.injEq] at h; subst h; rfl
  | cons e r ih =>
    simp only [evalRs] at h
    split at h
    · cases h
    · cases hk : evalRs vals r with
      | none => simp [hk] at h
      | some l' =>
        simp only [hk, Option.map_some, Option.some.injEq] at h
        subst h
        simp [ih hk]
theorem Ty2.len : ∀ {l ks : List Int}, Ty2 l ks → l.length = ks.length
  | [], [], _ => rfl
  | _ :: xs, _ :: ks, h => by simp [Ty2.len h.2.2]
  | [], _ :: _, h => h.elim
  | _ :: _, [], h => h.elim
section
variable {n : Int} {vals : List Int} (hn : (vals.length : Int) = n) (hv : ∀ x ∈ vals, -65536 ≤ x ∧ x ≤ 65536)
include hn hv
theorem eval_ty : ∀ (N : Nat) (x : Ex), SizeOf.sizeOf x < N → wfE n x → kindR x ≠ 0 → (evalR vals x).2 = true → (-1073741824 ≤ (evalR vals x).1 ∧ (evalR vals x).1 ≤ 1073741824) ∧ (kindR x = 2 → (evalR vals x).1 = 0 ∨ (evalR vals x).1 = 1) := by
  intro N
  induction N with
  | zero => intro x h; omega
  | succ N ihN =>
    intro x hs hwf hk he
    obtain ⟨op, v, ix, args⟩ := x
    simp only [wfE] at hwf
    obtain ⟨hform, hwf⟩ := hwf
    obtain ⟨ha, hb, -, hd⟩ := formHead_zero hform
    have hch : ∀ e ∈ args, kindR e ≠ 0 → (evalR vals e).2 = true → (-1073741824 ≤ (evalR vals e).1 ∧ (evalR vals e).1 ≤ 1073741824) ∧ (kindR e = 2 → (evalR vals e).1 = 0 ∨ (evalR vals e).1 = 1) := by
      intro e hm
      have := List.sizeOf_lt_of_mem hm
      simp only [Ex.mk.sizeOf_spec] at hs
      exact ihN e (by omega) (wfEs_mem hwf e hm)
    simp only [kindR] at hk ⊢
    cases hks : kindRs args with
    | none => rw [hks] at hk; exact absurd rfl hk
    | some ks =>
      rw [hks] at hk
      simp only at hk ⊢
      have hkl := kindRs_len hks
      simp only [evalR] at he ⊢
      by_cases h0 : op = 0
      · subst h0
        simp only [if_pos] at he ⊢
        refine ⟨by omega, fun h => ?_⟩
        simp [kindOp] at h
      rw [if_neg h0] at he ⊢
      by_cases h1 : op = 1
      · subst h1
        simp only [if_pos] at he ⊢
        refine ⟨?_, fun h => by simp [kindOp] at h⟩
        have hix : ix.toNat < vals.length := by omega
        have := hv _ (List.getElem_mem hix)
        rw [List.getD_eq_getElem?_getD, List.getElem?_eq_getElem hix]
        simp only [Option.getD_some]
        omega
      rw [if_neg h1] at he ⊢
      by_cases h13 : op = 13
      · subst h13
        simp only [if_pos] at he ⊢
        have h3 : args.length = 3 := by have : (args.length : Int) = 3 := hb; omega
        obtain ⟨hk0, hk12, hkr⟩ := kindOp_ite hk
        match args, h3 with
        | [c, a, b], _ =>
          have hnz := kindRs_nz hks
          have hkk : ks = [kindR c, kindR a, kindR b] := by
            simp only [kindRs, if_neg (hnz c (by simp)), if_neg (hnz a (by simp)), if_neg (hnz b (by simp)), Option.map_some, Option.some.injEq] at hks
            exact hks.symm
          subst hkk
          simp only [List.getD_cons_zero, List.getD_cons_succ] at hk0 hk12 hkr
          rw [hkr]
          simp only [evalI] at he ⊢
          by_cases hc : (evalR vals c).2 = false
          · rw [if_pos hc] at he; cases he
          rw [if_neg hc] at he ⊢
          split at he
          · rename_i h4
            rw [if_pos h4]
            exact hch a (by simp) (hnz a (by simp)) he
          · rename_i h4
            rw [if_neg h4, hk12]
            exact hch b (by simp) (hnz b (by simp)) he
      rw [if_neg h13] at he ⊢
      cases hl : evalRs vals args with
      | none => rw [hl] at he; cases he
      | some l =>
        rw [hl] at he
        simp only at he ⊢
        have hty : Ty2 l ks := by
          clear hb hform hk hd he hs hkl
          induction args generalizing l ks with
          | nil =>
            simp only [evalRs, Option.some.injEq] at hl
            simp only [kindRs, Option.some.injEq] at hks
            subst hl; subst hks
            trivial
          | cons e r ih =>
            simp only [evalRs] at hl
            simp only [kindRs] at hks
            split at hl
            · cases hl
            rename_i e1
            split at hks
            · cases hks
            rename_i e2
            cases hk1 : kindRs r with
            | none => simp [hk1] at hks
            | some ks' =>
              cases hl1 : evalRs vals r with
              | none => simp [hl1] at hl
              | some l' =>
                simp only [hk1, Option.map_some, Option.some.injEq] at hks
                simp only [hl1, Option.map_some, Option.some.injEq] at hl
                subst hks; subst hl
                have := hch e (by simp) e2 (by simpa using e1)
                exact ⟨this.1, this.2, ih (by simp only [wfEs] at hwf; exact hwf.2) (fun x hx => hch x (by simp [hx])) ks' hk1 l' hl1⟩
        exact ⟨largeB_false he, kind_app ha h0 h1 h13 (by rw [hkl]; exact hb) hty⟩
end
end Go.AI

namespace Go.AI
open Go.Proofs
set_option maxRecDepth 20000
theorem evalRs_take {vals : List Int} {args : List Ex} {i : Nat} {l : List Int} (h : i < args.length) (hl : evalRs vals (args.take i) = some l) : evalRs vals (args.take (i + 1)) = if (evalR vals args[i]).2 = false then none else some (l ++ [(evalR vals args[i]).1]) := by
  induction args generalizing i l with
  | nil => simp at h
  | cons e r ih =>
    cases i with
    | zero =>
      simp only [List.take_zero, evalRs, Option.some.injEq] at hl
      subst hl
      simp [evalRs]
    | succ i =>
      simp only [List.take_succ_cons, evalRs] at hl ⊢
      split at hl
      · cases hl
      · rename_i h1
        rw [if_neg h1]
        cases hk : evalRs vals (r.take i) with
        | none => simp [hk] at hl
        | some l' =>
          simp only [hk, Option.map_some, Option.some.injEq] at hl
          subst hl
          rw [ih (by simpa using h) hk]
          simp only [List.getElem_cons_succ]
          split <;> simp
theorem evalRs_none {vals : List Int} {args : List Ex} {i : Nat} (hl : evalRs vals (args.take i) = none) : evalRs vals args = none := by
  induction args generalizing i with
  | nil => simpa using hl
  | cons e r ih =>
    cases i with
    | zero => simp [evalRs] at hl
    | succ i =>
      simp only [List.take_succ_cons, evalRs] at hl ⊢
      split at hl
      · rename_i h1; rw [if_pos h1]
      · rename_i h1
        rw [if_neg h1]
        cases hk : evalRs vals (r.take i) with
        | none => rw [ih hk]; rfl
        | some l => simp [hk] at hl
theorem app87 (O : List Heap) {op : Int} {l ks : List Int} (ha : (arity op).2 = true) (h0 : op ≠ 0) (h1 : op ≠ 1) (h13 : op ≠ 13) (hlen : (ks.length : Int) = (arity op).1) (ht : Ty2 l ks) (hk : kindOp op ks ≠ 0) : ASpec Tryd.prog 87 [ii op, ints l] O (ii (applyR op l)) [] O := by
  have two : (ks.length : Int) = 2 → ∃ a b k1 k2, l = [a, b] ∧ ks = [k1, k2] := by
    intro h
    match ks, l, ht with
    | [], _, _ => simp at h
    | [_], _, _ => simp at h
    | [k1, k2], [a, b], _ => exact ⟨a, b, k1, k2, rfl, rfl⟩
    | _ :: _ :: _ :: _, _, _ => simp at h; omega
  have one : (ks.length : Int) = 1 → ∃ a k1, l = [a] ∧ ks = [k1] := by
    intro h
    match ks, l, ht with
    | [], _, _ => simp at h
    | [k1], [a], _ => exact ⟨a, k1, rfl, rfl⟩
    | _ :: _ :: _, _, _ => simp at h; omega
  have c2 : (op = 2 ∨ op = 3 ∨ op = 4 ∨ op = 6 ∨ op = 7 ∨ op = 8 ∨ op = 9 ∨ op = 11 ∨ op = 12) → ASpec Tryd.prog 87 [ii op, ints l] O (ii (applyR op l)) [] O := by
    intro h
    have h2 : (arity op).1 = 2 := by rcases h with rfl | rfl | rfl | rfl | rfl | rfl | rfl | rfl | rfl <;> rfl
    obtain ⟨a, b, k1, k2, rfl, rfl⟩ := two (by rw [hlen, h2])
    obtain ⟨a1, a2, b1, b2, -⟩ := ht
    refine apply2 O op a b h a1 b1 fun hop => ?_
    unfold kindOp at hk
    rw [if_neg (by omega), if_neg (by omega), if_neg (by omega), if_pos (by omega)] at hk
    split at hk
    · rename_i hall
      simp only [List.all_cons, List.all_nil, Bool.and_true, Bool.and_eq_true, decide_eq_true_eq] at hall
      exact ⟨a2 hall.1, b2 hall.2⟩
    · exact absurd rfl hk
  have c1 : (op = 5 ∨ op = 10) → ASpec Tryd.prog 87 [ii op, ints l] O (ii (applyR op l)) [] O := by
    intro h
    have h2 : (arity op).1 = 1 := by rcases h with rfl | rfl <;> rfl
    obtain ⟨a, k1, rfl, rfl⟩ := one (by rw [hlen, h2])
    exact apply1 O op a h ht.1
  rcases arity_cases ha with h | h | h | h | h
  · omega
  · rcases h with h | h | h | h
    · exact c2 (by omega)
    · exact c2 (by omega)
    · exact c2 (by omega)
    · exact c1 (by omega)
  · exact c2 (by omega)
  · rcases h with h | h | h
    · exact c1 (by omega)
    · exact c2 (by omega)
    · exact c2 (by omega)
  · omega
theorem ty2_of {n : Int} {vals : List Int} (hn : (vals.length : Int) = n) (hv : ∀ x ∈ vals, -65536 ≤ x ∧ x ≤ 65536) : ∀ (args : List Ex) (l ks : List Int), wfEs n args → evalRs vals args = some l → kindRs args = some ks → Ty2 l ks
  | [], l, ks, _, hl, hks => by
    simp only [evalRs, Option.some.injEq] at hl
    simp only [kindRs, Option.some.injEq] at hks
    subst hl; subst hks
    trivial
  | e :: r, l, ks, hwf, hl, hks => by
    simp only [evalRs] at hl
    simp only [kindRs] at hks
    split at hl
    · cases hl
    rename_i e1
    split at hks
    · cases hks
    rename_i e2
    cases hk1 : kindRs r with
    | none => simp [hk1] at hks
    | some ks' =>
      cases hl1 : evalRs vals r with
      | none => simp [hl1] at hl
      | some l' =>
        simp only [hk1, Option.map_some, Option.some.injEq] at hks
        simp only [hl1, Option.map_some, Option.some.injEq] at hl
        subst hks; subst hl
        simp only [wfEs] at hwf
        have := eval_ty hn hv _ e (Nat.lt_succ_self _) hwf.1 e2 (by simpa using e1)
        exact ⟨this.1, this.2, ty2_of hn hv r l' ks' hwf.2 hl1 hk1⟩
theorem evaluate71 {n : Int} {vals : List Int} (hn : (vals.length : Int) = n) (hv : ∀ x ∈ vals, -65536 ≤ x ∧ x ≤ 65536) : ∀ (N : Nat) (x : Ex), SizeOf.sizeOf x < N → wfE n x → kindR x ≠ 0 → ∀ O,
    ASpec Tryd.prog 71 [exD x, ints vals] O (.tup [ii (evalR vals x).1, bb (evalR vals x).2]) [] O := by
  intro N
  induction N with
  | zero => intro x h; omega
  | succ N ihN =>
    intro x hs hwf hk O
    have hty := eval_ty hn hv _ x (Nat.lt_succ_self _) hwf hk
    obtain ⟨op, v, ix, args⟩ := x
    simp only [wfE] at hwf
    obtain ⟨hform, hwf⟩ := hwf
    obtain ⟨ha, hb, -, hd⟩ := formHead_zero hform
    have hch : ∀ e ∈ args, kindR e ≠ 0 → ∀ O, ASpec Tryd.prog 71 [exD e, ints vals] O (.tup [ii (evalR vals e).1, bb (evalR vals e).2]) [] O := by
      intro e hm hke O
      have := List.sizeOf_lt_of_mem hm
      simp only [Ex.mk.sizeOf_spec] at hs
      exact ihN e (by omega) (wfEs_mem hwf e hm) hke O
    have hlen3 : args.length ≤ 3 := by have := arity_le op; omega
    have hlen : args.length ≤ max63 := by simp only [max63]; omega
    clear ihN hs hform
    simp only [kindR] at hk
    cases hks : kindRs args with
    | none => rw [hks] at hk; exact absurd rfl hk
    | some ks =>
      rw [hks] at hk
      simp only at hk
      have hkl := kindRs_len hks
      have hnz := kindRs_nz hks
      simp only [evalR] at *
      refine aspec_stop [20] TrydT_ok Tryd.func71 rfl Tryd.call71 Tryd.ntmps71 (Nat.le_of_ble_eq_true rfl) fun E => ?_
      refine g_run TrydT_ok Tryd.func71 ?_
      first | refine g_cnd TrydT_ok Tryd.func71 rfl (fun h0 => ?_) (fun h0 => ?_) | refine g_know TrydT_ok Tryd.func71 rfl (fun h0 => ?_) (fun h0 => ?_) | refine s_know TrydT_ok (fun h0 => ?_) (fun h0 => ?_)
      · have h0 := beqT h0
        subst h0
        rw [if_pos rfl]
        refine g_ret TrydT_ok (r := .tup [ii v, bb true]) rfl rfl rfl trivial rfl rfl ?_
        rfl
      have h0 := beqF h0
      rw [if_neg h0] at *
      first | refine g_cnd TrydT_ok Tryd.func71 rfl (fun h1 => ?_) (fun h1 => ?_) | refine g_know TrydT_ok Tryd.func71 rfl (fun h1 => ?_) (fun h1 => ?_) | refine s_know TrydT_ok (fun h1 => ?_) (fun h1 => ?_)
      · have h1 := beqT h1
        subst h1
        rw [if_pos rfl]
        have hix : ix.toNat < vals.length := by omega
        first | refine g_need TrydT_ok Tryd.func71 (by omega) ?_ | refine s_need TrydT_ok (by omega) ?_
        first | refine g_elem TrydT_ok Tryd.func71 (get_mapI (f := fun x => [vi x]) (i := ix.toNat) (by omega) hix) ?_ | refine s_elem TrydT_ok (get_mapI (f := fun x => [vi x]) (i := ix.toNat) (by omega) hix) ?_
        refine g_ret TrydT_ok (r := .tup [ii _, bb true]) rfl rfl rfl trivial rfl rfl ?_
        rw [List.getD_eq_getElem?_getD, List.getElem?_eq_getElem hix]
        rfl
      have h1 := beqF h1
      rw [if_neg h1] at *
      first | refine g_cnd TrydT_ok Tryd.func71 rfl (fun h13 => ?_) (fun h13 => ?_) | refine g_know TrydT_ok Tryd.func71 rfl (fun h13 => ?_) (fun h13 => ?_) | refine s_know TrydT_ok (fun h13 => ?_) (fun h13 => ?_)
      · have h13 := beqT h13
        subst h13
        rw [if_pos rfl] at *
        have h3 : args.length = 3 := by have : (args.length : Int) = 3 := hb; omega
        obtain ⟨hk0, hk12, hkr⟩ := kindOp_ite hk
        match args, h3 with
        | [c, a, b], _ =>
          have hkk : ks = [kindR c, kindR a, kindR b] := by
            simp only [kindRs, if_neg (hnz c (by simp)), if_neg (hnz a (by simp)), if_neg (hnz b (by simp)), Option.map_some, Option.some.injEq] at hks
            exact hks.symm
          subst hkk
          simp only [List.getD_cons_zero, List.getD_cons_succ] at hk0 hk12 hkr
          simp only [evalI]
          have hc1 := eval_ty hn hv _ c (Nat.lt_succ_self _) (by simp only [wfEs] at hwf; exact hwf.1) (hnz c (by simp))
          have sc := hch c (by simp) (hnz c (by simp))
          have sa := hch a (by simp) (hnz a (by simp))
          have sb := hch b (by simp) (hnz b (by simp))
          clear hch hty hwf hnz
          obtain ⟨co, cv, ci, ca⟩ := c
          obtain ⟨ao, av, ai, aa⟩ := a
          obtain ⟨bo, bv, bi, ba⟩ := b
          generalize evalR vals (.mk co cv ci ca) = rc at *
          obtain ⟨r1, r2⟩ := rc
          first | refine g_need TrydT_ok Tryd.func71 (by simp) ?_ | refine s_need TrydT_ok (by simp) ?_
          first | refine g_elem TrydT_ok Tryd.func71 (rfl) ?_ | refine s_elem TrydT_ok (rfl) ?_
          first | refine g_call TrydT_ok Tryd.func71 (sc _) rfl rfl rfl rfl rfl ?_ | refine s_call TrydT_ok (sc _) rfl rfl rfl ?_
          first | refine g_cnd TrydT_ok Tryd.func71 rfl (fun h2 => ?_) (fun h2 => ?_) | refine g_know TrydT_ok Tryd.func71 rfl (fun h2 => ?_) (fun h2 => ?_) | refine s_know TrydT_ok (fun h2 => ?_) (fun h2 => ?_)
          · have h2 : r2 = false := notT h2
            subst h2
            rw [if_pos rfl]
            refine g_ret TrydT_ok (r := .tup [ii 0, bb false]) rfl rfl rfl trivial rfl rfl ?_
            rfl
          · have h2 : r2 = true := notF h2
            subst h2
            rw [if_neg (by simp)]
            rcases (hc1 rfl).2 hk0 with h4 | h4
            · simp only at h4
              subst h4
              rw [if_neg (by simp)]
              first | refine g_need TrydT_ok Tryd.func71 (by exact ⟨by decide, by simp [w64]⟩) ?_ | refine s_need TrydT_ok (by exact ⟨by decide, by simp [w64]⟩) ?_
              first | refine g_elem TrydT_ok Tryd.func71 (rfl) ?_ | refine s_elem TrydT_ok (rfl) ?_
              first | refine g_call TrydT_ok Tryd.func71 (sb _) rfl rfl rfl rfl rfl ?_ | refine s_call TrydT_ok (sb _) rfl rfl rfl ?_
              refine g_ret TrydT_ok (r := .tup [ii _, bb _]) rfl rfl rfl trivial rfl rfl ?_
              rfl
            · simp only at h4
              subst h4
              rw [if_pos rfl]
              first | refine g_need TrydT_ok Tryd.func71 (by exact ⟨by decide, by simp [w64]⟩) ?_ | refine s_need TrydT_ok (by exact ⟨by decide, by simp [w64]⟩) ?_
              first | refine g_elem TrydT_ok Tryd.func71 (rfl) ?_ | refine s_elem TrydT_ok (rfl) ?_
              first | refine g_call TrydT_ok Tryd.func71 (sa _) rfl rfl rfl rfl rfl ?_ | refine s_call TrydT_ok (sa _) rfl rfl rfl ?_
              refine g_ret TrydT_ok (r := .tup [ii _, bb _]) rfl rfl rfl trivial rfl rfl ?_
              rfl
      have h13 := beqF h13
      rw [if_neg h13] at *
      apply join_q (P := fun l => evalRs vals args = some l) (s6 := fun l => { σ := [(2, .own 0 2 0 0), (8, ints l)], S := [(2, .box [ii op, ii v, ii ix, exs args])] :: O, n := 78 })
      · intro J
        refine g_loop ?_
        refine rch_wk (wk_nil 8 68 3 1 rfl rfl rfl) ?_
        refine rch_loop2 (fun x : Nat × List Int => [(1, ints vals), (2, .own 0 2 0 0), (8, .osl 0 68), (51, exs args), (52, ii args.length), (53, ii x.1)]) (fun x => [(68, oints x.2), (2, .box [ii op, ii v, ii ix, exs args])]) (fun _ => O) 78
          (fun x => x.1 ≤ args.length ∧ evalRs vals (args.take x.1) = some x.2) (fun x => args.length - x.1) (0, []) ⟨Nat.zero_le _, rfl⟩ ⟨rfl, rfl, rfl, rfl, rfl, rfl, trivial⟩ rfl ⟨rfl, rfl, trivial⟩ rfl rfl ?_
        rintro ⟨i, l⟩ ⟨hi, hno⟩ ih
        simp only at hi hno
        refine g_run TrydT_ok Tryd.func71 ?_
        first | refine g_cnd TrydT_ok Tryd.func71 rfl (fun h5 => ?_) (fun h5 => ?_) | refine g_know TrydT_ok Tryd.func71 rfl (fun h5 => ?_) (fun h5 => ?_) | refine s_know TrydT_ok (fun h5 => ?_) (fun h5 => ?_)
        · have h5 : i < args.length := by simpa using h5
          have hm := List.getElem_mem h5
          have hg := exIs_get h5
          have ht := evalRs_take h5 hno
          have hll := evalRs_len hno
          simp only [List.length_take, Nat.min_eq_left hi] at hll
          generalize args[i] = e at hm hg ht
          have hce := fun O => hch e hm (hnz e hm) O
          obtain ⟨eo, ev, ei, ea⟩ := e
          simp only [exI] at hg
          first | refine g_need TrydT_ok Tryd.func71 (by omega) ?_ | refine s_need TrydT_ok (by omega) ?_
          first | refine g_elem TrydT_ok Tryd.func71 (hg) ?_ | refine s_elem TrydT_ok (hg) ?_
          first | refine g_call TrydT_ok Tryd.func71 (hce _) rfl rfl rfl rfl rfl ?_ | refine s_call TrydT_ok (hce _) rfl rfl rfl ?_
          generalize evalR vals (.mk eo ev ei ea) = k at ht
          first | refine g_cnd TrydT_ok Tryd.func71 rfl (fun h6 => ?_) (fun h6 => ?_) | refine g_know TrydT_ok Tryd.func71 rfl (fun h6 => ?_) (fun h6 => ?_) | refine s_know TrydT_ok (fun h6 => ?_) (fun h6 => ?_)
          · have h6 := notT h6
            rw [if_pos h6] at ht
            rw [evalRs_none ht]
            refine g_ret TrydT_ok (r := .tup [ii 0, bb false]) rfl rfl rfl trivial rfl rfl ?_
            rfl
          · have h6 := notF h6
            rw [if_neg (by rw [h6]; simp)] at ht
            first | refine g_need TrydT_ok Tryd.func71 (by exact ⟨by show (l.length + 1) * 8 ≤ 140737488355328; omega, by show l.length + 1 ≤ 9223372036854775807; omega⟩) ?_ | refine s_need TrydT_ok (by exact ⟨by show (l.length + 1) * 8 ≤ 140737488355328; omega, by show l.length + 1 ≤ 9223372036854775807; omega⟩) ?_
            refine g_loop ?_
            refine ih (i + 1, l ++ [k.1]) _ _ ⟨h5, ht⟩ (by simp only; omega) ⟨rfl, rfl, rfl, rfl, rfl, congrArg ii (wsucc h5 hlen), trivial⟩ rfl ⟨congrArg some (oints_app l k.1), rfl, trivial⟩ rfl rfl
        · have h5 : args.length ≤ i := by simpa using h5
          rw [List.take_of_length_le h5] at hno
          refine g_stop ?_
          refine rch_wk (wk_freeze 68 rfl rfl) ?_
          refine rch_cut2 (l := [(2, .own 0 2 0 0), (8, ints l)]) (Hv := [(2, .box [ii op, ii v, ii ix, exs args])]) ⟨rfl, rfl, trivial⟩ rfl ⟨rfl, trivial⟩ rfl rfl (J l hno)
      · intro l hl
        have ht := ty2_of hn hv args l ks hwf hl hks
        rw [hl]
        refine g_run TrydT_ok Tryd.func71 ?_
        refine g_go TrydT_ok Tryd.func71 ?_
        first | refine g_call TrydT_ok Tryd.func71 (app87 _ ha h0 h1 h13 (by rw [hkl]; exact hb) ht hk) rfl rfl rfl rfl rfl ?_ | refine s_call TrydT_ok (app87 _ ha h0 h1 h13 (by rw [hkl]; exact hb) ht hk) rfl rfl rfl ?_
        first | refine g_call TrydT_ok Tryd.func71 (large70k _ (applyR op l) 1073741824 (by decide) (by decide)) rfl rfl rfl rfl rfl ?_ | refine s_call TrydT_ok (large70k _ (applyR op l) 1073741824 (by decide) (by decide)) rfl rfl rfl ?_
        refine g_ret TrydT_ok (r := .tup [ii _, bb _]) rfl rfl rfl trivial rfl rfl ?_
        rfl
/-- Evaluate: the value, or the error. -/
def evalX (x : Ex) (vals : List Int) : Int × Int :=
  if (checkX x vals.length).2 ≠ 0 then (0, (checkX x vals.length).2) else
  if vals.any (fun n => largeB n 65536) then (0, 2) else
  if (evalR vals x).2 = false then (0, 17) else ((evalR vals x).1, 0)
theorem big69' (O : List Heap) (a : Int) : ASpec Tryd.prog 69 [ii a] O (bb (largeB a 65536)) [] O := by
  refine aspec_intro TrydT_ok Tryd.func69 rfl Tryd.call69 Tryd.ntmps69 (Nat.le_of_ble_eq_true rfl) fun E => ?_
  refine g_run TrydT_ok Tryd.func69 ?_
  first | refine g_call TrydT_ok Tryd.func69 (large70k _ a 65536 (by decide) (by decide)) rfl rfl rfl rfl rfl ?_ | refine s_call TrydT_ok (large70k _ a 65536 (by decide) (by decide)) rfl rfl rfl ?_
  refine g_ret TrydT_ok (r := bb _) rfl rfl rfl trivial rfl rfl ?_
  rfl
theorem indexFunc86p (O : List Heap) (l : List Int) (f : Nat) (p : Int → Bool) (hl : l.length ≤ max63) (hp : ∀ x ∈ l, ∀ O, ASpec Tryd.prog f [ii x] O (bb (p x)) [] O) :
    ASpec Tryd.prog 86 [ints l, .fn (.func f) [] []] O (ii (findIx p l 0)) [] O := by
  refine aspec_intro TrydT_ok Tryd.func86 rfl Tryd.call86 Tryd.ntmps86 (Nat.le_of_ble_eq_true rfl) fun E => ?_
  refine g_run TrydT_ok Tryd.func86 ?_
  refine g_loop ?_
  refine rch_loop_ind (fun i : Nat => [(0, ints l), (1, .fn (.func f) [] []), (6, ints l), (7, ii l.length), (8, ii i)]) (fun _ => [] :: O) 19 (fun i => i ≤ l.length ∧ findIx p l 0 = findIx p (l.drop i) i) (fun i => l.length - i) 0 ⟨Nat.zero_le _, rfl⟩ ⟨rfl, rfl, rfl, rfl, rfl, trivial⟩ rfl rfl ?_
  intro i ⟨hi, hno⟩ ih
  rw [hno]
  rw [hno] at ih
  refine g_run TrydT_ok Tryd.func86 ?_
  first | refine g_cnd TrydT_ok Tryd.func86 rfl (fun h1 => ?_) (fun h1 => ?_) | refine g_know TrydT_ok Tryd.func86 rfl (fun h1 => ?_) (fun h1 => ?_) | refine s_know TrydT_ok (fun h1 => ?_) (fun h1 => ?_)
  · have h1 : i < l.length := by simpa using h1
    have hd : l.drop i = l[i] :: l.drop (i + 1) := (List.drop_eq_getElem_cons h1)
    first | refine g_need TrydT_ok Tryd.func86 (by omega) ?_ | refine s_need TrydT_ok (by omega) ?_
    first | refine g_elem TrydT_ok Tryd.func86 (get_mapZ h1) ?_ | refine s_elem TrydT_ok (get_mapZ h1) ?_
    first | refine g_call TrydT_ok Tryd.func86 (hp l[i] (List.getElem_mem h1) _) rfl rfl rfl rfl rfl ?_ | refine s_call TrydT_ok (hp l[i] (List.getElem_mem h1) _) rfl rfl rfl ?_
    first | refine g_cnd TrydT_ok Tryd.func86 rfl (fun h2 => ?_) (fun h2 => ?_) | refine g_know TrydT_ok Tryd.func86 rfl (fun h2 => ?_) (fun h2 => ?_) | refine s_know TrydT_ok (fun h2 => ?_) (fun h2 => ?_)
    · refine g_ret TrydT_ok (r := ii _) rfl rfl rfl trivial rfl rfl ?_
      rw [hd]
      simp only [findIx]
      rw [if_pos h2]
    · refine g_loop ?_
      refine ih (i + 1) _ ⟨h1, ?_⟩ (by omega) ⟨rfl, rfl, rfl, rfl, congrArg ii (wsucc h1 hl), trivial⟩ rfl rfl
      rw [hd]
      simp only [findIx]
      rw [if_neg (by rw [h2]; simp)]
  · have h1 : l.length ≤ i := by simpa using h1
    refine g_ret TrydT_ok (r := ii _) rfl rfl rfl trivial rfl rfl ?_
    rw [List.drop_eq_nil_of_le h1]
    rfl
theorem containsFunc68p (O : List Heap) (l : List Int) (f : Nat) (p : Int → Bool) (hl : l.length ≤ max63) (hp : ∀ x ∈ l, ∀ O, ASpec Tryd.prog f [ii x] O (bb (p x)) [] O) :
    ASpec Tryd.prog 68 [ints l, .fn (.func f) [] []] O (bb (l.any p)) [] O := by
  refine aspec_intro TrydT_ok Tryd.func68 rfl Tryd.call68 Tryd.ntmps68 (Nat.le_of_ble_eq_true rfl) fun E => ?_
  refine g_run TrydT_ok Tryd.func68 ?_
  first | refine g_call TrydT_ok Tryd.func68 (indexFunc86p _ l f p hl hp) rfl rfl rfl rfl rfl ?_ | refine s_call TrydT_ok (indexFunc86p _ l f p hl hp) rfl rfl rfl ?_
  refine g_ret TrydT_ok (r := bb _) rfl rfl rfl trivial rfl rfl ?_
  exact congrArg bb (findIx_any p l 0)
theorem checkX_ok {x : Ex} {n : Int} (h : (checkX x n).2 = 0) : (formR x n 1 0).1 = 0 ∧ kindR x ≠ 0 ∧ 0 ≤ n ∧ n ≤ 16 ∧ (checkX x n).1 = kindR x := by
  unfold checkX at h ⊢
  by_cases h1 : n < 0 ∨ n > 16
  · rw [if_pos h1] at h; cases h
  rw [if_neg h1] at h ⊢
  by_cases h2 : (formR x n 1 0).1 ≠ 0
  · rw [if_pos h2] at h; exact absurd h h2
  rw [if_neg h2] at h ⊢
  by_cases h3 : kindR x = 0
  · rw [if_pos h3] at h; cases h
  rw [if_neg h3]
  exact ⟨by simpa using h2, h3, by omega, by omega, rfl⟩
theorem any_large {vals : List Int} (h : vals.any (fun n => largeB n 65536) = false) : ∀ x ∈ vals, -65536 ≤ x ∧ x ≤ 65536 := by
  intro x hx
  rw [List.any_eq_false] at h
  have := h x hx
  simp [largeB] at this
  omega
theorem evaluate51 (O : List Heap) (x : Ex) (vals : List Int) (hok : exOk x) (hl : vals.length ≤ max63) : ASpec Tryd.prog 51 [exD x, ints vals] O (.tup [ii (evalX x vals).1, ii (evalX x vals).2]) [] O := by
  have hc := fun O => check67 O x vals.length hok
  have hco := @checkX_ok x vals.length
  have hwf := formR_wf x vals.length 1 0
  have hev := fun hv hw hk O => evaluate71 (n := vals.length) (vals := vals) rfl hv _ x (Nat.lt_succ_self _) hw hk O
  unfold evalX
  obtain ⟨op, v, ix, args⟩ := x
  generalize checkX (.mk op v ix args) vals.length = R at *
  refine aspec_intro TrydT_ok Tryd.func51 rfl Tryd.call51 Tryd.ntmps51 (Nat.le_of_ble_eq_true rfl) fun E => ?_
  refine g_run TrydT_ok Tryd.func51 ?_
  first | refine g_call TrydT_ok Tryd.func51 (hc _) rfl rfl rfl rfl rfl ?_ | refine s_call TrydT_ok (hc _) rfl rfl rfl ?_
  first | refine g_cnd TrydT_ok Tryd.func51 rfl (fun h1 => ?_) (fun h1 => ?_) | refine g_know TrydT_ok Tryd.func51 rfl (fun h1 => ?_) (fun h1 => ?_) | refine s_know TrydT_ok (fun h1 => ?_) (fun h1 => ?_)
  · have h1 := bneT h1
    rw [if_pos h1]
    refine g_ret TrydT_ok (r := .tup [ii 0, ii _]) rfl rfl rfl trivial rfl rfl ?_
    rfl
  · have h1 := bneF h1
    obtain ⟨c1, c2, -, -, -⟩ := hco h1
    rw [if_neg (by simpa using h1)]
    first | refine g_call TrydT_ok Tryd.func51 (containsFunc68p _ vals 69 (fun n => largeB n 65536) hl (fun x _ O => big69' O x)) rfl rfl rfl rfl rfl ?_ | refine s_call TrydT_ok (containsFunc68p _ vals 69 (fun n => largeB n 65536) hl (fun x _ O => big69' O x)) rfl rfl rfl ?_
    first | refine g_cnd TrydT_ok Tryd.func51 rfl (fun h2 => ?_) (fun h2 => ?_) | refine g_know TrydT_ok Tryd.func51 rfl (fun h2 => ?_) (fun h2 => ?_) | refine s_know TrydT_ok (fun h2 => ?_) (fun h2 => ?_)
    · rw [if_pos h2]
      refine g_ret TrydT_ok (r := .tup [ii 0, ii 2]) rfl rfl rfl trivial rfl rfl ?_
      rfl
    · rw [if_neg (by rw [h2]; simp)]
      first | refine g_call TrydT_ok Tryd.func51 (hev (any_large h2) (hwf c1) c2 _) rfl rfl rfl rfl rfl ?_ | refine s_call TrydT_ok (hev (any_large h2) (hwf c1) c2 _) rfl rfl rfl ?_
      first | refine g_cnd TrydT_ok Tryd.func51 rfl (fun h3 => ?_) (fun h3 => ?_) | refine g_know TrydT_ok Tryd.func51 rfl (fun h3 => ?_) (fun h3 => ?_) | refine s_know TrydT_ok (fun h3 => ?_) (fun h3 => ?_)
      · have h3 := notT h3
        rw [if_pos h3]
        refine g_ret TrydT_ok (r := .tup [ii 0, ii 17]) rfl rfl rfl trivial rfl rfl ?_
        rfl
      · have h3 := notF h3
        rw [if_neg (by rw [h3]; simp)]
        refine g_ret TrydT_ok (r := .tup [ii _, ii 0]) rfl rfl rfl trivial rfl rfl ?_
        rfl
end Go.AI

namespace Go.AI
open Go.Proofs
set_option maxRecDepth 20000
def Ex.op : Ex → Int | .mk o _ _ _ => o
def Ex.vl : Ex → Int | .mk _ v _ _ => v
def Ex.ix : Ex → Int | .mk _ _ i _ => i
def Ex.args : Ex → List Ex | .mk _ _ _ a => a
abbrev exA (x : Ex) : D := .agg [ii x.op, ii x.vl, ii x.ix, exs x.args]
theorem exD_eq (x : Ex) : exD x = exA x := by cases x; rfl
theorem exI_eq (x : Ex) : exI x = [vi x.op, vi x.vl, vi x.ix, .sl 4 x.args.length (exIs x.args)] := by cases x; simp [exI, Ex.op, Ex.vl, Ex.ix, Ex.args]
/-- An assignment. -/
structure Upd where
  v : Int
  x : Ex
abbrev updI (u : Upd) : List I := [vi u.v, vi u.x.op, vi u.x.vl, vi u.x.ix, .sl 4 u.x.args.length (exIs u.x.args)]
abbrev upds (l : List Upd) : D := .i (.sl 5 l.length (l.map updI))
/-- A move. -/
structure Mv where
  frm : Int
  ev : Int
  to : Int
  g : Ex
  us : List Upd
abbrev mvI (m : Mv) : List I := [vi m.frm, vi m.ev, vi m.to, vi m.g.op, vi m.g.vl, vi m.g.ix, .sl 4 m.g.args.length (exIs m.g.args), .sl 5 m.us.length (m.us.map updI)]
abbrev mvs (l : List Mv) : D := .i (.sl 8 l.length (l.map mvI))
/-- An extended automaton. -/
structure Ext where
  alpha : List Int
  locs : Int
  init : Int
  marked : List Int
  vars : List Vr
  moves : List Mv
abbrev extD (m : Ext) : D := .agg [ints m.alpha, ii m.locs, ii m.init, ints m.marked, vrs m.vars, mvs m.moves]
abbrev extC (m : Ext) : List D := [ints m.alpha, ii m.locs, ii m.init, ints m.marked, vrs m.vars, mvs m.moves]
structure Sta where
  loc : Int
  vals : List Int
abbrev staD (s : Sta) : D := .agg [ii s.loc, ints s.vals]
abbrev staI (s : Sta) : List I := [vi s.loc, intsI s.vals]
/-- Sizes that fit. -/
def updOk (u : Upd) : Prop := exOk u.x
def mvOk (x : Mv) : Prop := exOk x.g ∧ x.us.length ≤ max63 ∧ ∀ u ∈ x.us, exOk u.x
structure extOk (m : Ext) : Prop where
  al : m.alpha.length ≤ max63
  ma : m.marked.length ≤ max63
  va : m.vars.length ≤ max63
  na : ∀ v ∈ m.vars, v.name.size ≤ max63
  mo : m.moves.length ≤ max63
  mv : ∀ x ∈ m.moves, mvOk x
theorem check67A (O : List Heap) (x : Ex) (n : Int) (hok : exOk x) : ASpec Tryd.prog 67 [exA x, ii n] O (.tup [ii (checkX x n).1, ii (checkX x n).2]) [] O := by rw [← exD_eq]; exact check67 O x n hok
theorem checkExpr78A (O : List Heap) (x : Ex) (n k : Int) (hok : exOk x) : ASpec Tryd.prog 78 [exA x, ii n, ii k] O (ii (typedX x n k)) [] O := by rw [← exD_eq]; exact checkExpr78 O x n k hok
theorem evaluate51A (O : List Heap) (x : Ex) (vals : List Int) (hok : exOk x) (hl : vals.length ≤ max63) : ASpec Tryd.prog 51 [exA x, ints vals] O (.tup [ii (evalX x vals).1, ii (evalX x vals).2]) [] O := by rw [← exD_eq]; exact evaluate51 O x vals hok hl
/-- The first error of a list of assignments behind one. -/
def updErr (n : Int) : Option Int → List Upd → Int
  | _, [] => 0
  | prev, u :: r => if u.v < 0 ∨ u.v ≥ n then 2 else if prev.any (u.v ≤ ·) then 5 else if typedX u.x n 1 ≠ 0 then typedX u.x n 1 else updErr n (some u.v) r
/-- The first error of a move behind one. -/
def mvErr (m : Ext) (prev : Option Mv) (x : Mv) : Int :=
  if x.frm < 0 ∨ x.frm ≥ m.locs ∨ x.to < 0 ∨ x.to ≥ m.locs then 2 else
  if x.ev ∉ m.alpha then 9 else
  if prev.any (fun p => decide (x.frm < p.frm ∨ (x.frm = p.frm ∧ x.ev < p.ev))) then 5 else
  if typedX x.g m.vars.length 2 ≠ 0 then typedX x.g m.vars.length 2 else updErr m.vars.length none x.us
def prevL {α : Type} (l : List α) (i : Nat) : Option α := if i = 0 then none else l[i - 1]?
theorem wpred {i n : Nat} (h0 : 0 < i) (h : i < n) (hn : n ≤ max63) : IntKind.i64.wrap ((i : Int) - 1) = ((i - 1 : Nat) : Int) := by
  simp only [max63] at hn
  rw [w64 (by omega) (by omega)]
  omega
theorem prevL_pos {α : Type} {l : List α} {i : Nat} (h0 : 0 < i) (h : i < l.length) : prevL l i = some (l[i - 1]'(by omega)) := by
  unfold prevL
  rw [if_neg (by omega), List.getElem?_eq_getElem]
theorem checkMove61 (O : List Heap) (m : Ext) (i : Nat) (hi : i < m.moves.length) (hs : m.alpha.Pairwise (· < ·)) (hok : extOk m) : ASpec Tryd.prog 61 [extD m, ii i] O (ii (mvErr m (prevL m.moves i) m.moves[i])) [] O := by
  have hx := hok.mv _ (List.getElem_mem hi)
  have hg : (m.moves.map mvI)[(i : Int).toNat]? = some (mvI m.moves[i]) := get_mapZ hi
  generalize hR : mvErr m (prevL m.moves i) m.moves[i] = R
  have hp0 : 0 < i → prevL m.moves i = some (m.moves[i - 1]'(by omega)) := fun h => prevL_pos h hi
  have hgp : ∀ h : 0 < i, (m.moves.map mvI)[(IntKind.i64.wrap ((i : Int) - 1)).toNat]? = some (mvI (m.moves[i - 1]'(by omega))) := fun h => by
    rw [wpred h hi hok.mo]
    exact get_mapZ (by omega)
  have hpn : i = 0 → prevL m.moves i = none := fun h => by unfold prevL; rw [if_pos h]
  generalize m.moves[i] = x at *
  obtain ⟨xf, xe, xt, xg, xu⟩ := x
  obtain ⟨hx1, hx2, hx3⟩ := hx
  simp only at hx1 hx2 hx3
  have hmo := hok.mo
  unfold mvErr at hR
  simp only at hR
  refine aspec_stop [4, 6, 8, 18] TrydT_ok Tryd.func61 rfl Tryd.call61 Tryd.ntmps61 (Nat.le_of_ble_eq_true rfl) fun E => ?_
  refine g_run TrydT_ok Tryd.func61 ?_
  first | refine g_need TrydT_ok Tryd.func61 (by omega) ?_ | refine s_need TrydT_ok (by omega) ?_
  first | refine g_elem TrydT_ok Tryd.func61 (hg) ?_ | refine s_elem TrydT_ok (hg) ?_
  apply join_p (P := ¬ (xf < 0 ∨ xf ≥ m.locs ∨ xt < 0 ∨ xt ≥ m.locs)) (s6 := { σ := [(1, ii i), (2, .own 0 2 0 0), (5, .own 0 5 0 0)], S := [(5, .box [ii xf, ii xe, ii xt, ii xg.op, ii xg.vl, ii xg.ix, exs xg.args, upds xu]), (2, .box (extC m))] :: O, n := 138 })
  · intro J
    have bad : (xf < 0 ∨ xf ≥ m.locs ∨ xt < 0 ∨ xt ≥ m.locs) → R = 2 := fun h => by rw [← hR, if_pos h]
    first | refine g_cnd TrydT_ok Tryd.func61 rfl (fun h1 => ?_) (fun h1 => ?_) | refine g_know TrydT_ok Tryd.func61 rfl (fun h1 => ?_) (fun h1 => ?_) | refine s_know TrydT_ok (fun h1 => ?_) (fun h1 => ?_)
    · have := bad (.inl (of_decide_eq_true h1))
      subst this
      repeat (first | refine g_cnd TrydT_ok Tryd.func61 rfl (fun _ => ?_) (fun h => absurd h (by decide)) | refine g_cnd TrydT_ok Tryd.func61 rfl (fun h => absurd h (by decide)) (fun _ => ?_) | refine g_know TrydT_ok Tryd.func61 rfl (fun _ => ?_) (fun h => absurd h (by decide)) | refine g_know TrydT_ok Tryd.func61 rfl (fun h => absurd h (by decide)) (fun _ => ?_) | refine s_know TrydT_ok (fun _ => ?_) (fun h => absurd h (by decide)) | refine s_know TrydT_ok (fun h => absurd h (by decide)) (fun _ => ?_))
      refine g_ret TrydT_ok (r := ii 2) rfl rfl rfl trivial rfl rfl ?_
      rfl
    have h1 : ¬ xf < 0 := of_decide_eq_false h1
    first | refine g_cnd TrydT_ok Tryd.func61 rfl (fun h2 => ?_) (fun h2 => ?_) | refine g_know TrydT_ok Tryd.func61 rfl (fun h2 => ?_) (fun h2 => ?_) | refine s_know TrydT_ok (fun h2 => ?_) (fun h2 => ?_)
    · have := bad (.inr (.inl (of_decide_eq_true h2)))
      subst this
      repeat (first | refine g_cnd TrydT_ok Tryd.func61 rfl (fun _ => ?_) (fun h => absurd h (by decide)) | refine g_cnd TrydT_ok Tryd.func61 rfl (fun h => absurd h (by decide)) (fun _ => ?_) | refine g_know TrydT_ok Tryd.func61 rfl (fun _ => ?_) (fun h => absurd h (by decide)) | refine g_know TrydT_ok Tryd.func61 rfl (fun h => absurd h (by decide)) (fun _ => ?_) | refine s_know TrydT_ok (fun _ => ?_) (fun h => absurd h (by decide)) | refine s_know TrydT_ok (fun h => absurd h (by decide)) (fun _ => ?_))
      refine g_ret TrydT_ok (r := ii 2) rfl rfl rfl trivial rfl rfl ?_
      rfl
    have h2 : ¬ xf ≥ m.locs := of_decide_eq_false h2
    first | refine g_cnd TrydT_ok Tryd.func61 rfl (fun h3 => ?_) (fun h3 => ?_) | refine g_know TrydT_ok Tryd.func61 rfl (fun h3 => ?_) (fun h3 => ?_) | refine s_know TrydT_ok (fun h3 => ?_) (fun h3 => ?_)
    · have := bad (.inr (.inr (.inl (of_decide_eq_true h3))))
      subst this
      repeat (first | refine g_cnd TrydT_ok Tryd.func61 rfl (fun _ => ?_) (fun h => absurd h (by decide)) | refine g_cnd TrydT_ok Tryd.func61 rfl (fun h => absurd h (by decide)) (fun _ => ?_) | refine g_know TrydT_ok Tryd.func61 rfl (fun _ => ?_) (fun h => absurd h (by decide)) | refine g_know TrydT_ok Tryd.func61 rfl (fun h => absurd h (by decide)) (fun _ => ?_) | refine s_know TrydT_ok (fun _ => ?_) (fun h => absurd h (by decide)) | refine s_know TrydT_ok (fun h => absurd h (by decide)) (fun _ => ?_))
      refine g_ret TrydT_ok (r := ii 2) rfl rfl rfl trivial rfl rfl ?_
      rfl
    have h3 : ¬ xt < 0 := of_decide_eq_false h3
    first | refine g_cnd TrydT_ok Tryd.func61 rfl (fun h4 => ?_) (fun h4 => ?_) | refine g_know TrydT_ok Tryd.func61 rfl (fun h4 => ?_) (fun h4 => ?_) | refine s_know TrydT_ok (fun h4 => ?_) (fun h4 => ?_)
    · have := bad (.inr (.inr (.inr (of_decide_eq_true h4))))
      subst this
      refine g_ret TrydT_ok (r := ii 2) rfl rfl rfl trivial rfl rfl ?_
      rfl
    have h4 : ¬ xt ≥ m.locs := of_decide_eq_false h4
    refine g_stop ?_
    refine rch_meet (J (by omega)) ⟨rfl, rfl, rfl, trivial⟩ rfl ⟨rfl, rfl, trivial⟩ rfl rfl
  · intro hP
    rw [if_neg hP] at hR
    refine g_run TrydT_ok Tryd.func61 ?_
    refine g_go TrydT_ok Tryd.func61 ?_
    first | refine g_call TrydT_ok Tryd.func61 (contains49 _ m.alpha xe hok.al hs) rfl rfl rfl rfl rfl ?_ | refine s_call TrydT_ok (contains49 _ m.alpha xe hok.al hs) rfl rfl rfl ?_
    first | refine g_cnd TrydT_ok Tryd.func61 rfl (fun h1 => ?_) (fun h1 => ?_) | refine g_know TrydT_ok Tryd.func61 rfl (fun h1 => ?_) (fun h1 => ?_) | refine s_know TrydT_ok (fun h1 => ?_) (fun h1 => ?_)
    · have h1 : xe ∉ m.alpha := by simpa using h1
      rw [if_pos h1] at hR
      subst hR
      refine g_ret TrydT_ok (r := ii 9) rfl rfl rfl trivial rfl rfl ?_
      rfl
    have h1 : xe ∈ m.alpha := by simpa using h1
    rw [if_neg (by simpa using h1)] at hR
    apply join_p (P := R = if typedX xg m.vars.length 2 ≠ 0 then typedX xg m.vars.length 2 else updErr m.vars.length none xu) (s6 := { σ := [(1, ii i), (2, .own 0 2 0 0), (5, .own 0 5 0 0)], S := [(5, .box [ii xf, ii xe, ii xt, ii xg.op, ii xg.vl, ii xg.ix, exs xg.args, upds xu]), (2, .box (extC m))] :: O, n := 138 })
    · intro J
      refine g_stop ?_
      refine g_run TrydT_ok Tryd.func61 ?_
      refine g_go TrydT_ok Tryd.func61 ?_
      refine g_drawn TrydT_ok Tryd.func61 mixedT rfl ?_
      first | refine g_cnd TrydT_ok Tryd.func61 rfl (fun h2 => ?_) (fun h2 => ?_) | refine g_know TrydT_ok Tryd.func61 rfl (fun h2 => ?_) (fun h2 => ?_) | refine s_know TrydT_ok (fun h2 => ?_) (fun h2 => ?_)
      · have h2 : 0 < i := by have := of_decide_eq_true h2; omega
        have hgp := hgp h2
        have hp0 := hp0 h2
        have hw := wpred h2 hi hmo
        generalize m.moves[i - 1] = y at hgp hp0
        obtain ⟨yf, ye, yt, yg, yu⟩ := y
        rw [hp0] at hR
        simp only [Option.any_some] at hR
        first | refine g_need TrydT_ok Tryd.func61 (by rw [hw]; omega) ?_ | refine s_need TrydT_ok (by rw [hw]; omega) ?_
        first | refine g_elem TrydT_ok Tryd.func61 (hgp) ?_ | refine s_elem TrydT_ok (hgp) ?_
        first | refine g_cnd TrydT_ok Tryd.func61 rfl (fun h3 => ?_) (fun h3 => ?_) | refine g_know TrydT_ok Tryd.func61 rfl (fun h3 => ?_) (fun h3 => ?_) | refine s_know TrydT_ok (fun h3 => ?_) (fun h3 => ?_)
        · have h3 : xf < yf := of_decide_eq_true h3
          refine e_done TrydT_ok Tryd.func61 (by kernel_rfl) ?_
          repeat (first | refine g_cnd TrydT_ok Tryd.func61 rfl (fun _ => ?_) (fun h => absurd h (by decide)) | refine g_cnd TrydT_ok Tryd.func61 rfl (fun h => absurd h (by decide)) (fun _ => ?_) | refine g_know TrydT_ok Tryd.func61 rfl (fun _ => ?_) (fun h => absurd h (by decide)) | refine g_know TrydT_ok Tryd.func61 rfl (fun h => absurd h (by decide)) (fun _ => ?_) | refine s_know TrydT_ok (fun _ => ?_) (fun h => absurd h (by decide)) | refine s_know TrydT_ok (fun h => absurd h (by decide)) (fun _ => ?_))
          rw [if_pos (by simp [h3])] at hR
          subst hR
          refine g_ret TrydT_ok (r := ii 5) rfl rfl rfl trivial rfl rfl ?_
          rfl
        · have h3 : ¬ xf < yf := of_decide_eq_false h3
          first | refine g_need TrydT_ok Tryd.func61 (by rw [hw]; omega) ?_ | refine s_need TrydT_ok (by rw [hw]; omega) ?_
          first | refine g_elem TrydT_ok Tryd.func61 (hgp) ?_ | refine s_elem TrydT_ok (hgp) ?_
          first | refine g_cnd TrydT_ok Tryd.func61 rfl (fun h4 => ?_) (fun h4 => ?_) | refine g_know TrydT_ok Tryd.func61 rfl (fun h4 => ?_) (fun h4 => ?_) | refine s_know TrydT_ok (fun h4 => ?_) (fun h4 => ?_)
          · have h4 : xf = yf := beqT h4
            first | refine g_need TrydT_ok Tryd.func61 (by rw [hw]; omega) ?_ | refine s_need TrydT_ok (by rw [hw]; omega) ?_
            first | refine g_elem TrydT_ok Tryd.func61 (hgp) ?_ | refine s_elem TrydT_ok (hgp) ?_
            refine e_done TrydT_ok Tryd.func61 (by kernel_rfl) ?_
            first | refine g_cnd TrydT_ok Tryd.func61 rfl (fun h5 => ?_) (fun h5 => ?_) | refine g_know TrydT_ok Tryd.func61 rfl (fun h5 => ?_) (fun h5 => ?_) | refine s_know TrydT_ok (fun h5 => ?_) (fun h5 => ?_)
            · have h5 : xe < ye := of_decide_eq_true h5
              rw [if_pos (by simp [h4, h5])] at hR
              subst hR
              refine g_ret TrydT_ok (r := ii 5) rfl rfl rfl trivial rfl rfl ?_
              rfl
            · have h5 : ¬ xe < ye := of_decide_eq_false h5
              rw [if_neg (by simp; omega)] at hR
              refine g_stop ?_
              refine rch_meet (J hR.symm) ⟨rfl, rfl, rfl, trivial⟩ rfl ⟨rfl, rfl, trivial⟩ rfl rfl
          · have h4 : xf ≠ yf := beqF h4
            refine e_done TrydT_ok Tryd.func61 (by kernel_rfl) ?_
            repeat (first | refine g_cnd TrydT_ok Tryd.func61 rfl (fun _ => ?_) (fun h => absurd h (by decide)) | refine g_cnd TrydT_ok Tryd.func61 rfl (fun h => absurd h (by decide)) (fun _ => ?_) | refine g_know TrydT_ok Tryd.func61 rfl (fun _ => ?_) (fun h => absurd h (by decide)) | refine g_know TrydT_ok Tryd.func61 rfl (fun h => absurd h (by decide)) (fun _ => ?_) | refine s_know TrydT_ok (fun _ => ?_) (fun h => absurd h (by decide)) | refine s_know TrydT_ok (fun h => absurd h (by decide)) (fun _ => ?_))
            rw [if_neg (by simp; omega)] at hR
            refine g_stop ?_
            refine rch_meet (J hR.symm) ⟨rfl, rfl, rfl, trivial⟩ rfl ⟨rfl, rfl, trivial⟩ rfl rfl
      · have h2 : i = 0 := by have := of_decide_eq_false h2; omega
        refine e_done TrydT_ok Tryd.func61 (by kernel_rfl) ?_
        repeat (first | refine g_cnd TrydT_ok Tryd.func61 rfl (fun _ => ?_) (fun h => absurd h (by decide)) | refine g_cnd TrydT_ok Tryd.func61 rfl (fun h => absurd h (by decide)) (fun _ => ?_) | refine g_know TrydT_ok Tryd.func61 rfl (fun _ => ?_) (fun h => absurd h (by decide)) | refine g_know TrydT_ok Tryd.func61 rfl (fun h => absurd h (by decide)) (fun _ => ?_) | refine s_know TrydT_ok (fun _ => ?_) (fun h => absurd h (by decide)) | refine s_know TrydT_ok (fun h => absurd h (by decide)) (fun _ => ?_))
        rw [hpn h2] at hR
        rw [if_neg (by simp)] at hR
        refine g_stop ?_
        refine rch_meet (J hR.symm) ⟨rfl, rfl, rfl, trivial⟩ rfl ⟨rfl, rfl, trivial⟩ rfl rfl
    · intro hR
      refine g_run TrydT_ok Tryd.func61 ?_
      refine g_go TrydT_ok Tryd.func61 ?_
      first | refine g_call TrydT_ok Tryd.func61 (checkExpr78A _ xg m.vars.length 2 hx1) rfl rfl rfl rfl rfl ?_ | refine s_call TrydT_ok (checkExpr78A _ xg m.vars.length 2 hx1) rfl rfl rfl ?_
      first | refine g_cnd TrydT_ok Tryd.func61 rfl (fun h2 => ?_) (fun h2 => ?_) | refine g_know TrydT_ok Tryd.func61 rfl (fun h2 => ?_) (fun h2 => ?_) | refine s_know TrydT_ok (fun h2 => ?_) (fun h2 => ?_)
      · have h2 := bneT h2
        rw [if_pos h2] at hR
        subst hR
        refine g_ret TrydT_ok (r := ii _) rfl rfl rfl trivial rfl rfl ?_
        rfl
      have h2 := bneF h2
      rw [if_neg (by simpa using h2)] at hR
      refine g_loop ?_
      refine rch_loop2 (fun j : Nat => [(2, .own 0 2 0 0), (5, .own 0 5 0 0), (94, upds xu), (95, ii xu.length), (96, ii j)]) (fun _ => [(5, .box [ii xf, ii xe, ii xt, ii xg.op, ii xg.vl, ii xg.ix, exs xg.args, upds xu]), (2, .box (extC m))]) (fun _ => O) 138
        (fun j => j ≤ xu.length ∧ R = updErr m.vars.length ((prevL xu j).map (·.v)) (xu.drop j)) (fun j => xu.length - j) 0 ⟨Nat.zero_le _, hR⟩ ⟨rfl, rfl, rfl, rfl, rfl, trivial⟩ rfl ⟨rfl, rfl, trivial⟩ rfl rfl ?_
      rintro j ⟨hj, hno⟩ ih
      clear hR
      refine g_run TrydT_ok Tryd.func61 ?_
      first | refine g_cnd TrydT_ok Tryd.func61 rfl (fun h3 => ?_) (fun h3 => ?_) | refine g_know TrydT_ok Tryd.func61 rfl (fun h3 => ?_) (fun h3 => ?_) | refine s_know TrydT_ok (fun h3 => ?_) (fun h3 => ?_)
      · have h3 : j < xu.length := by simpa using h3
        have hd : xu.drop j = xu[j] :: xu.drop (j + 1) := List.drop_eq_getElem_cons h3
        have hm := List.getElem_mem h3
        have hgj : (xu.map updI)[(j : Int).toNat]? = some (updI xu[j]) := get_mapZ h3
        have hpj0 : 0 < j → prevL xu j = some (xu[j - 1]'(by omega)) := fun h => prevL_pos h h3
        have hgpj : ∀ h : 0 < j, (xu.map updI)[(IntKind.i64.wrap ((j : Int) - 1)).toNat]? = some (updI (xu[j - 1]'(by omega))) := fun h => by
          rw [wpred h h3 hx2]
          exact get_mapZ (by omega)
        have hpjn : j = 0 → prevL xu j = none := fun h => by unfold prevL; rw [if_pos h]
        have hpj1 : prevL xu (j + 1) = some xu[j] := by rw [prevL, if_neg (by omega)]; simp [h3]
        generalize xu[j] = u at *
        have hux := hx3 u hm
        obtain ⟨uv, ux⟩ := u
        simp only at hux
        rw [hd] at hno
        simp only [updErr] at hno
        first | refine g_need TrydT_ok Tryd.func61 (by omega) ?_ | refine s_need TrydT_ok (by omega) ?_
        first | refine g_elem TrydT_ok Tryd.func61 (hgj) ?_ | refine s_elem TrydT_ok (hgj) ?_
        apply join_p (P := R = if typedX ux m.vars.length 1 ≠ 0 then typedX ux m.vars.length 1 else updErr m.vars.length (some uv) (xu.drop (j + 1))) (s6 := { σ := [(2, .own 0 2 0 0), (5, .own 0 5 0 0), (8, .own 0 8 0 0), (94, upds xu), (95, ii xu.length), (96, ii j)], S := [(8, .box [ii uv, ii ux.op, ii ux.vl, ii ux.ix, exs ux.args]), (5, .box [ii xf, ii xe, ii xt, ii xg.op, ii xg.vl, ii xg.ix, exs xg.args, upds xu]), (2, .box (extC m))] :: O, n := 138 })
        · intro J
          first | refine g_cnd TrydT_ok Tryd.func61 rfl (fun h4 => ?_) (fun h4 => ?_) | refine g_know TrydT_ok Tryd.func61 rfl (fun h4 => ?_) (fun h4 => ?_) | refine s_know TrydT_ok (fun h4 => ?_) (fun h4 => ?_)
          · have h4 : uv < 0 := of_decide_eq_true h4
            rw [if_pos (.inl h4)] at hno
            subst hno
            repeat (first | refine g_cnd TrydT_ok Tryd.func61 rfl (fun _ => ?_) (fun h => absurd h (by decide)) | refine g_cnd TrydT_ok Tryd.func61 rfl (fun h => absurd h (by decide)) (fun _ => ?_) | refine g_know TrydT_ok Tryd.func61 rfl (fun _ => ?_) (fun h => absurd h (by decide)) | refine g_know TrydT_ok Tryd.func61 rfl (fun h => absurd h (by decide)) (fun _ => ?_) | refine s_know TrydT_ok (fun _ => ?_) (fun h => absurd h (by decide)) | refine s_know TrydT_ok (fun h => absurd h (by decide)) (fun _ => ?_))
            refine g_ret TrydT_ok (r := ii 2) rfl rfl rfl trivial rfl rfl ?_
            rfl
          have h4 : ¬ uv < 0 := of_decide_eq_false h4
          first | refine g_cnd TrydT_ok Tryd.func61 rfl (fun h5 => ?_) (fun h5 => ?_) | refine g_know TrydT_ok Tryd.func61 rfl (fun h5 => ?_) (fun h5 => ?_) | refine s_know TrydT_ok (fun h5 => ?_) (fun h5 => ?_)
          · have h5 : uv ≥ m.vars.length := of_decide_eq_true h5
            rw [if_pos (.inr h5)] at hno
            subst hno
            refine g_ret TrydT_ok (r := ii 2) rfl rfl rfl trivial rfl rfl ?_
            rfl
          have h5 : ¬ uv ≥ m.vars.length := of_decide_eq_false h5
          rw [if_neg (by omega)] at hno
          refine g_drawn TrydT_ok Tryd.func61 mixedT rfl ?_
          first | refine g_cnd TrydT_ok Tryd.func61 rfl (fun h6 => ?_) (fun h6 => ?_) | refine g_know TrydT_ok Tryd.func61 rfl (fun h6 => ?_) (fun h6 => ?_) | refine s_know TrydT_ok (fun h6 => ?_) (fun h6 => ?_)
          · have h6 : 0 < j := by have := of_decide_eq_true h6; omega
            have hgpj := hgpj h6
            have hw := wpred h6 h3 hx2
            rw [hpj0 h6] at hno
            generalize xu[j - 1] = y at hgpj hno
            obtain ⟨yv, yx⟩ := y
            simp only [Option.map_some, Option.any_some] at hno
            first | refine g_need TrydT_ok Tryd.func61 (by rw [hw]; omega) ?_ | refine s_need TrydT_ok (by rw [hw]; omega) ?_
            first | refine g_elem TrydT_ok Tryd.func61 (hgpj) ?_ | refine s_elem TrydT_ok (hgpj) ?_
            refine e_done TrydT_ok Tryd.func61 (by kernel_rfl) ?_
            first | refine g_cnd TrydT_ok Tryd.func61 rfl (fun h7 => ?_) (fun h7 => ?_) | refine g_know TrydT_ok Tryd.func61 rfl (fun h7 => ?_) (fun h7 => ?_) | refine s_know TrydT_ok (fun h7 => ?_) (fun h7 => ?_)
            · have h7 : uv ≤ yv := of_decide_eq_true h7
              rw [if_pos (decide_eq_true h7)] at hno
              subst hno
              refine g_ret TrydT_ok (r := ii 5) rfl rfl rfl trivial rfl rfl ?_
              rfl
            · have h7 : ¬ uv ≤ yv := of_decide_eq_false h7
              rw [if_neg (by simpa using h7)] at hno
              refine g_stop ?_
              refine rch_meet (J hno) ⟨rfl, rfl, rfl, rfl, rfl, rfl, trivial⟩ rfl ⟨rfl, rfl, rfl, trivial⟩ rfl rfl
          · have h6 : j = 0 := by have := of_decide_eq_false h6; omega
            refine e_done TrydT_ok Tryd.func61 (by kernel_rfl) ?_
            repeat (first | refine g_cnd TrydT_ok Tryd.func61 rfl (fun _ => ?_) (fun h => absurd h (by decide)) | refine g_cnd TrydT_ok Tryd.func61 rfl (fun h => absurd h (by decide)) (fun _ => ?_) | refine g_know TrydT_ok Tryd.func61 rfl (fun _ => ?_) (fun h => absurd h (by decide)) | refine g_know TrydT_ok Tryd.func61 rfl (fun h => absurd h (by decide)) (fun _ => ?_) | refine s_know TrydT_ok (fun _ => ?_) (fun h => absurd h (by decide)) | refine s_know TrydT_ok (fun h => absurd h (by decide)) (fun _ => ?_))
            rw [hpjn h6] at hno
            simp only [Option.map_none, Option.any_none] at hno
            rw [if_neg (by simp)] at hno
            refine g_stop ?_
            refine rch_meet (J hno) ⟨rfl, rfl, rfl, rfl, rfl, rfl, trivial⟩ rfl ⟨rfl, rfl, rfl, trivial⟩ rfl rfl
        · intro hno
          refine g_run TrydT_ok Tryd.func61 ?_
          refine g_go TrydT_ok Tryd.func61 ?_
          first | refine g_call TrydT_ok Tryd.func61 (checkExpr78A _ ux m.vars.length 1 hux) rfl rfl rfl rfl rfl ?_ | refine s_call TrydT_ok (checkExpr78A _ ux m.vars.length 1 hux) rfl rfl rfl ?_
          first | refine g_cnd TrydT_ok Tryd.func61 rfl (fun h7 => ?_) (fun h7 => ?_) | refine g_know TrydT_ok Tryd.func61 rfl (fun h7 => ?_) (fun h7 => ?_) | refine s_know TrydT_ok (fun h7 => ?_) (fun h7 => ?_)
          · have h7 := bneT h7
            rw [if_pos h7] at hno
            subst hno
            refine g_ret TrydT_ok (r := ii _) rfl rfl rfl trivial rfl rfl ?_
            rfl
          have h7 := bneF h7
          rw [if_neg (by simpa using h7)] at hno
          refine g_loop ?_
          refine ih (j + 1) _ _ ⟨h3, by rw [hpj1]; exact hno⟩ (by omega) ⟨rfl, rfl, rfl, rfl, congrArg ii (wsucc h3 hx2), trivial⟩ rfl ⟨rfl, rfl, trivial⟩ rfl rfl
      · have h3 : xu.length ≤ j := by simpa using h3
        rw [List.drop_eq_nil_of_le h3] at hno
        simp only [updErr] at hno
        subst hno
        refine g_ret TrydT_ok (r := ii 0) rfl rfl rfl trivial rfl rfl ?_
        rfl
end Go.AI
