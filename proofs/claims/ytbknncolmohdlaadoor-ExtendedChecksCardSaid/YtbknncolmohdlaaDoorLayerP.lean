/- The layer of abstract runs, part 16. -/
import Derived.Test.YtbknncolmohdlaaDoorLayerO
set_option linter.unusedSimpArgs false
set_option linter.unusedVariables false
set_option linter.all false
namespace Go.AI
open Go.Proofs
set_option maxRecDepth 20000
def holdsB (x : Ex) (vals : List Int) : Bool := decide ((evalX x vals).2 = 0 ∧ (evalX x vals).1 = 1)
theorem holds53 (O : List Heap) (x : Ex) (vals : List Int) (hok : exOk x) (hl : vals.length ≤ max63) : ASpec Tryd.prog 53 [exA x, ints vals] O (bb (holdsB x vals)) [] O := by
  have he := fun O => evaluate51A O x vals hok hl
  generalize hR : holdsB x vals = R
  unfold holdsB at hR
  generalize evalX x vals = V at *
  obtain ⟨v, e⟩ := V
  simp only at hR he
  refine aspec_intro TrydT_ok Tryd.func53 rfl Tryd.call53 Tryd.ntmps53 (Nat.le_of_ble_eq_true rfl) fun E => ?_
  refine g_run TrydT_ok Tryd.func53 ?_
  first | refine g_call TrydT_ok Tryd.func53 (he _) rfl rfl rfl rfl rfl ?_ | refine s_callq TrydT_ok (fun _ => he _) rfl rfl rfl ?_
  first | refine g_cnd TrydT_ok Tryd.func53 rfl (fun h1 => ?_) (fun h1 => ?_) | refine g_know TrydT_ok Tryd.func53 rfl (fun h1 => ?_) (fun h1 => ?_) | refine s_know TrydT_ok (fun h1 => ?_) (fun h1 => ?_)
  · have h1 := beqT h1
    subst h1
    subst hR
    refine g_ret TrydT_ok (r := bb (v == 1)) rfl rfl rfl trivial rfl rfl ?_
    by_cases h : v = 1
    · subst h; rfl
    · rw [decide_eq_false (by simp [h])]
      simp [h]
  · have h1 := beqF h1
    subst hR
    refine g_ret TrydT_ok (r := bb false) rfl rfl rfl trivial rfl rfl ?_
    rw [decide_eq_false (by simp [h1])]
theorem truths36 (O : List Heap) (m : Ext) (i : Nat) (vals : List Int) (hi : i < m.moves.length) (hok : extOk m) (hl : vals.length ≤ max63) : ASpec Tryd.prog 36 [extD m, ii i, ints vals] O (bb (holdsB m.moves[i].g vals)) [] O := by
  have hg : (m.moves.map mvI)[(i : Int).toNat]? = some (mvI m.moves[i]) := get_mapZ hi
  have he := fun O => evaluate51A O m.moves[i].g vals (hok.mv _ (List.getElem_mem hi)).1 hl
  generalize m.moves[i] = x at *
  generalize hR : holdsB x.g vals = R
  unfold holdsB at hR
  generalize evalX x.g vals = V at *
  obtain ⟨v, e⟩ := V
  simp only at hR he
  refine aspec_intro TrydT_ok Tryd.func36 rfl Tryd.call36 Tryd.ntmps36 (Nat.le_of_ble_eq_true rfl) fun E => ?_
  refine g_run TrydT_ok Tryd.func36 ?_
  first | refine g_need TrydT_ok Tryd.func36 (by exact ⟨by omega, by show (i : Int) < (m.moves.length : Int); omega⟩) ?_ | refine s_need TrydT_ok (by exact ⟨by omega, by show (i : Int) < (m.moves.length : Int); omega⟩) ?_
  first | refine g_elem TrydT_ok Tryd.func36 (hg) ?_ | refine s_elem TrydT_ok (hg) ?_
  first | refine g_call TrydT_ok Tryd.func36 (he _) rfl rfl rfl rfl rfl ?_ | refine s_callq TrydT_ok (fun _ => he _) rfl rfl rfl ?_
  first | refine g_cnd TrydT_ok Tryd.func36 rfl (fun h1 => ?_) (fun h1 => ?_) | refine g_know TrydT_ok Tryd.func36 rfl (fun h1 => ?_) (fun h1 => ?_) | refine s_know TrydT_ok (fun h1 => ?_) (fun h1 => ?_)
  · have h1 := beqT h1
    subst h1
    subst hR
    refine g_ret TrydT_ok (r := bb (v == 1)) rfl rfl rfl trivial rfl rfl ?_
    by_cases h : v = 1
    · subst h; rfl
    · rw [decide_eq_false (by simp [h])]
      simp [h]
  · have h1 := beqF h1
    subst hR
    refine g_ret TrydT_ok (r := bb false) rfl rfl rfl trivial rfl rfl ?_
    rw [decide_eq_false (by simp [h1])]
abbrev mvC (x : Mv) : List D := [ii x.frm, ii x.ev, ii x.to, ii x.g.op, ii x.g.vl, ii x.g.ix, exs x.g.args, upds x.us]
theorem unusedF55 (O : List Heap) (x : Mv) (vals : List Int) (d nm : Nat) (hok : exOk x.g) (hl : vals.length ≤ max63) (ho : objAt O d nm = some (.box (mvC x))) : ASpec Tryd.prog 55 [ints vals, .own d nm 0 0] O (bb (holdsB x.g vals)) [] O := by
  have hO1 : ∀ H, objAt (H :: O) (d + 1) nm = some (.box (mvC x)) := fun H => by simpa [objAt] using ho
  have hh := fun O => holds53 O x.g vals hok hl
  refine aspec_intro TrydT_ok Tryd.func55 rfl Tryd.call55 Tryd.ntmps55 (Nat.le_of_ble_eq_true rfl) fun E => ?_
  refine g_run TrydT_ok Tryd.func55 ?_
  first | refine g_obj TrydT_ok Tryd.func55 (hO1 _) ?_ | refine s_obj TrydT_ok (hO1 _) ?_
  first | refine g_call TrydT_ok Tryd.func55 (hh _) rfl rfl rfl rfl rfl ?_ | refine s_callq TrydT_ok (fun _ => hh _) rfl rfl rfl ?_
  refine g_ret TrydT_ok (r := bb _) rfl rfl rfl trivial rfl rfl ?_
  rfl
def unL (all : List (List Int)) : List Mv → Nat → List Int
  | [], _ => []
  | x :: r, i => if all.any (holdsB x.g) then unL all r (i + 1) else (i : Int) :: unL all r (i + 1)
/-- Unused, of a sketched automaton. -/
def unusedR (m : Ext) : List Int := unL (allV m.vars) m.moves 0
theorem allV_vals {l : List Vr} : ∀ x ∈ allV l, x.length = l.length := by
  have key : ∀ (l : List Vr) (out : List (List Int)) (n : Nat), (∀ x ∈ out, x.length = n) → ∀ x ∈ l.foldl allStep out, x.length = n + l.length := by
    intro l
    induction l with
    | nil => intro out n h; simpa using h
    | cons v r ih =>
      intro out n h x hx
      have := ih (allStep out v) (n + 1) (allStep_vals h) x hx
      simp only [List.length_cons]
      omega
  intro x hx
  have := key l [[]] 0 (by simp) x hx
  omega
theorem allV_len {l : List Vr} (h2 : l.length ≤ 2) (h : ∀ v ∈ l, vrOk v) : (allV l).length ≤ 16 := by
  match l, h2 with
  | [], _ => decide
  | [a], _ =>
    have := allStep_len (out := [[]]) (h a (by simp))
    simp only [List.length_cons, List.length_nil] at this
    show (allStep [[]] a).length ≤ 16
    omega
  | [a, b], _ =>
    have h1 := allStep_len (out := [[]]) (h a (by simp))
    have h2 := allStep_len (out := allStep [[]] a) (h b (by simp))
    simp only [List.length_cons, List.length_nil] at h1
    show (allStep (allStep [[]] a) b).length ≤ 16
    omega
theorem unused34 (O : List Heap) (m : Ext) (hm : made m) : ASpec Tryd.prog 34 [extD m] O (.tup [ints (unusedR m), ii 0]) [] O := by
  have hok := made_ok hm
  have hck := fun O => check40 O m hok
  rw [made_chk hm] at hck
  have hall := fun O => all35 O m.vars hm.vl hm.v hm.ve
  have hvals := @allV_vals m.vars
  have hal := allV_len hm.vl hm.v
  have hml := hm.ml
  have hvl := hm.vl
  generalize hR : unusedR m = R
  unfold unusedR at hR
  generalize allV m.vars = A at *
  refine aspec_intro TrydT_ok Tryd.func34 rfl Tryd.call34 Tryd.ntmps34 (Nat.le_of_ble_eq_true rfl) fun E => ?_
  refine g_run TrydT_ok Tryd.func34 ?_
  first | refine g_call TrydT_ok Tryd.func34 (hck _) rfl rfl rfl rfl rfl ?_ | refine s_callq TrydT_ok (fun _ => hck _) rfl rfl rfl ?_
  repeat (first | refine g_cnd TrydT_ok Tryd.func34 rfl (fun _ => ?_) (fun h => absurd h (by decide)) | refine g_cnd TrydT_ok Tryd.func34 rfl (fun h => absurd h (by decide)) (fun _ => ?_) | refine g_know TrydT_ok Tryd.func34 rfl (fun _ => ?_) (fun h => absurd h (by decide)) | refine g_know TrydT_ok Tryd.func34 rfl (fun h => absurd h (by decide)) (fun _ => ?_) | refine s_know TrydT_ok (fun _ => ?_) (fun h => absurd h (by decide)) | refine s_know TrydT_ok (fun h => absurd h (by decide)) (fun _ => ?_))
  first | refine g_call TrydT_ok Tryd.func34 (hall _) rfl rfl rfl rfl rfl ?_ | refine s_callq TrydT_ok (fun _ => hall _) rfl rfl rfl ?_
  repeat (first | refine g_cnd TrydT_ok Tryd.func34 rfl (fun _ => ?_) (fun h => absurd h (by decide)) | refine g_cnd TrydT_ok Tryd.func34 rfl (fun h => absurd h (by decide)) (fun _ => ?_) | refine g_know TrydT_ok Tryd.func34 rfl (fun _ => ?_) (fun h => absurd h (by decide)) | refine g_know TrydT_ok Tryd.func34 rfl (fun h => absurd h (by decide)) (fun _ => ?_) | refine s_know TrydT_ok (fun _ => ?_) (fun h => absurd h (by decide)) | refine s_know TrydT_ok (fun h => absurd h (by decide)) (fun _ => ?_))
  refine g_loop ?_
  refine rch_wk (wk_nil 7 39 3 1 rfl rfl rfl) ?_
  refine rch_loop2 (fun x : Nat × List Int => [(1, .own 0 1 0 0), (5, intss A), (7, .osl 0 39), (25, mvs m.moves), (26, ii m.moves.length), (27, ii x.1)]) (fun x => [(1, .box (extC m)), (39, oints x.2)]) (fun _ => O) 42
    (fun x => x.1 ≤ m.moves.length ∧ x.2.length ≤ x.1 ∧ R = x.2 ++ unL A (m.moves.drop x.1) x.1) (fun x => m.moves.length - x.1) (0, []) ⟨Nat.zero_le _, Nat.le_refl _, by rw [← hR]; rfl⟩ ⟨rfl, rfl, rfl, rfl, rfl, rfl, trivial⟩ rfl ⟨rfl, rfl, trivial⟩ rfl rfl ?_
  rintro ⟨i, acc⟩ ⟨hi, hacc, hno⟩ ih
  clear hR
  simp only at hi hacc hno
  refine g_run TrydT_ok Tryd.func34 ?_
  first | refine g_cnd TrydT_ok Tryd.func34 rfl (fun g1 => ?_) (fun g1 => ?_) | refine g_know TrydT_ok Tryd.func34 rfl (fun g1 => ?_) (fun g1 => ?_) | refine s_know TrydT_ok (fun g1 => ?_) (fun g1 => ?_)
  · have h1 : i < m.moves.length := by simpa using g1
    clear g1
    have hd : m.moves.drop i = m.moves[i] :: m.moves.drop (i + 1) := List.drop_eq_getElem_cons h1
    have hg : (m.moves.map mvI)[(i : Int).toNat]? = some (mvI m.moves[i]) := get_mapZ h1
    have hgd := hm.mv _ (List.getElem_mem h1)
    generalize m.moves[i] = x at *
    rw [hd] at hno
    simp only [unL] at hno
    have hcf := fun O hp => containsFunc54 O A 55 0 9 (holdsB x.g) (by simp only [max63]; omega) hp
    first | refine g_need TrydT_ok Tryd.func34 (by exact ⟨by omega, by show (i : Int) < (m.moves.length : Int); omega⟩) ?_ | refine s_need TrydT_ok (by exact ⟨by omega, by show (i : Int) < (m.moves.length : Int); omega⟩) ?_
    first | refine g_elem TrydT_ok Tryd.func34 (hg) ?_ | refine s_elem TrydT_ok (hg) ?_
    first | refine g_call TrydT_ok Tryd.func34 (hcf _ (fun y hy => unusedF55 _ x y 2 9 hgd.gok (by have := hvals y hy; simp only [max63]; omega) (by rfl))) rfl rfl rfl rfl rfl ?_ | refine s_callq TrydT_ok (fun _ => hcf _ (fun y hy => unusedF55 _ x y 2 9 hgd.gok (by have := hvals y hy; simp only [max63]; omega) (by rfl))) rfl rfl rfl ?_
    first | refine g_cnd TrydT_ok Tryd.func34 rfl (fun h2 => ?_) (fun h2 => ?_) | refine g_know TrydT_ok Tryd.func34 rfl (fun h2 => ?_) (fun h2 => ?_) | refine s_know TrydT_ok (fun h2 => ?_) (fun h2 => ?_)
    · have h2 := notT h2
      rw [if_neg (by rw [h2]; simp)] at hno
      first | refine g_need TrydT_ok Tryd.func34 (by exact ⟨by show (acc.length + 1) * 8 ≤ 140737488355328; omega, by show acc.length + 1 ≤ 9223372036854775807; omega⟩) ?_ | refine s_need TrydT_ok (by exact ⟨by show (acc.length + 1) * 8 ≤ 140737488355328; omega, by show acc.length + 1 ≤ 9223372036854775807; omega⟩) ?_
      refine g_loop ?_
      refine ih (i + 1, acc ++ [(i : Int)]) _ _ ⟨h1, by simp only [List.length_append, List.length_singleton]; omega, by rw [hno]; simp⟩ (by simp only; omega) ⟨rfl, rfl, rfl, rfl, rfl, congrArg ii (wsucc (n := 8) (by omega) (by decide)), trivial⟩ rfl ⟨rfl, congrArg some (oints_app acc i), trivial⟩ rfl rfl
    · have h2 := notF h2
      rw [if_pos h2] at hno
      refine g_loop ?_
      refine ih (i + 1, acc) _ _ ⟨h1, by simp only; omega, hno⟩ (by simp only; omega) ⟨rfl, rfl, rfl, rfl, rfl, congrArg ii (wsucc (n := 8) (by omega) (by decide)), trivial⟩ rfl ⟨rfl, rfl, trivial⟩ rfl rfl
  · have h1 : m.moves.length ≤ i := by simpa using g1
    rw [List.drop_eq_nil_of_le h1] at hno
    simp only [unL, List.append_nil] at hno
    subst hno
    refine g_rwk (wk_freeze 39 rfl rfl) ?_
    refine g_ret TrydT_ok (r := .tup [ints R, ii 0]) rfl rfl rfl trivial rfl rfl ?_
    rfl
end Go.AI

namespace Go.AI
open Go.Proofs
set_option maxRecDepth 20000
/-- The first values for which both guards are true. -/
def firstR (all : List (List Int)) (x y : Ex) : List Int × Bool × Int := match all.find? fun v => holdsB x v && holdsB y v with
  | some v => (v, true, 0)
  | none => ([], false, 0)
/-- Overlap, of a sketched automaton. -/
def overR (m : Ext) (i k : Int) : List Int × Bool × Int :=
  if i < 0 ∨ i ≥ m.moves.length ∨ k < 0 ∨ k ≥ m.moves.length then ([], false, 2) else
  match m.moves[i.toNat]?, m.moves[k.toNat]? with
  | some x, some y => if i = k ∨ x.frm ≠ y.frm ∨ x.ev ≠ y.ev then ([], false, 13) else firstR (allV m.vars) x.g y.g
  | _, _ => ([], false, 0)
theorem coNo {e : Int} : CoD (.tup [.i (.v (.slice none 0 0)), bb false, ii e]) (.tup [ints [], bb false, ii e]) := coD_tup (.cons (coD_i coI_nil) (CoDL.refl _))
theorem overlap33 (O : List Heap) (m : Ext) (i k : Int) (hm : made m) : ASpec Tryd.prog 33 [extD m, ii i, ii k] O (.tup [ints (overR m i k).1, bb (overR m i k).2.1, ii (overR m i k).2.2]) [] O := by
  have hok := made_ok hm
  have hck := fun O => check40 O m hok
  rw [made_chk hm] at hck
  have hall := fun O => all35 O m.vars hm.vl hm.v hm.ve
  have hvals := @allV_vals m.vars
  have hal := allV_len hm.vl hm.v
  have hml := hm.ml
  have hvl := hm.vl
  generalize hR : overR m i k = R
  unfold overR at hR
  have bad : (i < 0 ∨ i ≥ m.moves.length ∨ k < 0 ∨ k ≥ m.moves.length) → R = ([], false, 2) := fun h => by rw [← hR, if_pos h]
  have good : ¬ (i < 0 ∨ i ≥ m.moves.length ∨ k < 0 ∨ k ≥ m.moves.length) → R = match m.moves[i.toNat]?, m.moves[k.toNat]? with
    | some x, some y => if i = k ∨ x.frm ≠ y.frm ∨ x.ev ≠ y.ev then ([], false, 13) else firstR (allV m.vars) x.g y.g
    | _, _ => ([], false, 0) := fun h => by rw [← hR, if_neg h]
  clear hR
  generalize allV m.vars = A at *
  refine aspec_stop [9] TrydT_ok Tryd.func33 rfl Tryd.call33 Tryd.ntmps33 (Nat.le_of_ble_eq_true rfl) fun E => ?_
  refine g_run TrydT_ok Tryd.func33 ?_
  first | refine g_call TrydT_ok Tryd.func33 (hck _) rfl rfl rfl rfl rfl ?_ | refine s_callq TrydT_ok (fun _ => hck _) rfl rfl rfl ?_
  repeat (first | refine g_cnd TrydT_ok Tryd.func33 rfl (fun _ => ?_) (fun h => absurd h (by decide)) | refine g_cnd TrydT_ok Tryd.func33 rfl (fun h => absurd h (by decide)) (fun _ => ?_) | refine g_know TrydT_ok Tryd.func33 rfl (fun _ => ?_) (fun h => absurd h (by decide)) | refine g_know TrydT_ok Tryd.func33 rfl (fun h => absurd h (by decide)) (fun _ => ?_) | refine s_know TrydT_ok (fun _ => ?_) (fun h => absurd h (by decide)) | refine s_know TrydT_ok (fun h => absurd h (by decide)) (fun _ => ?_))
  first | refine g_cnd TrydT_ok Tryd.func33 rfl (fun h1 => ?_) (fun h1 => ?_) | refine g_know TrydT_ok Tryd.func33 rfl (fun h1 => ?_) (fun h1 => ?_) | refine s_know TrydT_ok (fun h1 => ?_) (fun h1 => ?_)
  · have := bad (.inl (of_decide_eq_true h1))
    subst this
    repeat (first | refine g_cnd TrydT_ok Tryd.func33 rfl (fun _ => ?_) (fun h => absurd h (by decide)) | refine g_cnd TrydT_ok Tryd.func33 rfl (fun h => absurd h (by decide)) (fun _ => ?_) | refine g_know TrydT_ok Tryd.func33 rfl (fun _ => ?_) (fun h => absurd h (by decide)) | refine g_know TrydT_ok Tryd.func33 rfl (fun h => absurd h (by decide)) (fun _ => ?_) | refine s_know TrydT_ok (fun _ => ?_) (fun h => absurd h (by decide)) | refine s_know TrydT_ok (fun h => absurd h (by decide)) (fun _ => ?_))
    refine g_ret_co TrydT_ok (r := _) rfl rfl rfl trivial rfl rfl ?_
    exact coNo
  have h1 : ¬ i < 0 := of_decide_eq_false h1
  first | refine g_cnd TrydT_ok Tryd.func33 rfl (fun h2 => ?_) (fun h2 => ?_) | refine g_know TrydT_ok Tryd.func33 rfl (fun h2 => ?_) (fun h2 => ?_) | refine s_know TrydT_ok (fun h2 => ?_) (fun h2 => ?_)
  · have := bad (.inr (.inl (of_decide_eq_true h2)))
    subst this
    repeat (first | refine g_cnd TrydT_ok Tryd.func33 rfl (fun _ => ?_) (fun h => absurd h (by decide)) | refine g_cnd TrydT_ok Tryd.func33 rfl (fun h => absurd h (by decide)) (fun _ => ?_) | refine g_know TrydT_ok Tryd.func33 rfl (fun _ => ?_) (fun h => absurd h (by decide)) | refine g_know TrydT_ok Tryd.func33 rfl (fun h => absurd h (by decide)) (fun _ => ?_) | refine s_know TrydT_ok (fun _ => ?_) (fun h => absurd h (by decide)) | refine s_know TrydT_ok (fun h => absurd h (by decide)) (fun _ => ?_))
    refine g_ret_co TrydT_ok (r := _) rfl rfl rfl trivial rfl rfl ?_
    exact coNo
  have h2 : ¬ i ≥ m.moves.length := of_decide_eq_false h2
  first | refine g_cnd TrydT_ok Tryd.func33 rfl (fun h3 => ?_) (fun h3 => ?_) | refine g_know TrydT_ok Tryd.func33 rfl (fun h3 => ?_) (fun h3 => ?_) | refine s_know TrydT_ok (fun h3 => ?_) (fun h3 => ?_)
  · have := bad (.inr (.inr (.inl (of_decide_eq_true h3))))
    subst this
    repeat (first | refine g_cnd TrydT_ok Tryd.func33 rfl (fun _ => ?_) (fun h => absurd h (by decide)) | refine g_cnd TrydT_ok Tryd.func33 rfl (fun h => absurd h (by decide)) (fun _ => ?_) | refine g_know TrydT_ok Tryd.func33 rfl (fun _ => ?_) (fun h => absurd h (by decide)) | refine g_know TrydT_ok Tryd.func33 rfl (fun h => absurd h (by decide)) (fun _ => ?_) | refine s_know TrydT_ok (fun _ => ?_) (fun h => absurd h (by decide)) | refine s_know TrydT_ok (fun h => absurd h (by decide)) (fun _ => ?_))
    refine g_ret_co TrydT_ok (r := _) rfl rfl rfl trivial rfl rfl ?_
    exact coNo
  have h3 : ¬ k < 0 := of_decide_eq_false h3
  first | refine g_cnd TrydT_ok Tryd.func33 rfl (fun h4 => ?_) (fun h4 => ?_) | refine g_know TrydT_ok Tryd.func33 rfl (fun h4 => ?_) (fun h4 => ?_) | refine s_know TrydT_ok (fun h4 => ?_) (fun h4 => ?_)
  · have := bad (.inr (.inr (.inr (of_decide_eq_true h4))))
    subst this
    refine g_ret_co TrydT_ok (r := _) rfl rfl rfl trivial rfl rfl ?_
    exact coNo
  have h4 : ¬ k ≥ m.moves.length := of_decide_eq_false h4
  have good := good (by omega)
  clear bad
  have hi : i.toNat < m.moves.length := by omega
  have hk : k.toNat < m.moves.length := by omega
  rw [List.getElem?_eq_getElem hi, List.getElem?_eq_getElem hk] at good
  simp only at good
  have gx : (m.moves.map mvI)[i.toNat]? = some (mvI m.moves[i.toNat]) := by simp [hi]
  have gy : (m.moves.map mvI)[k.toNat]? = some (mvI m.moves[k.toNat]) := by simp [hk]
  have hgx := hm.mv _ (List.getElem_mem hi)
  have hgy := hm.mv _ (List.getElem_mem hk)
  generalize m.moves[i.toNat] = x at *
  generalize m.moves[k.toNat] = y at *
  have conf : (i = k ∨ x.frm ≠ y.frm ∨ x.ev ≠ y.ev) → R = ([], false, 13) := fun h => by rw [good, if_pos h]
  have free : ¬ (i = k ∨ x.frm ≠ y.frm ∨ x.ev ≠ y.ev) → R = firstR A x.g y.g := fun h => by rw [good, if_neg h]
  clear good
  have hbi : 0 ≤ i ∧ i < (m.moves.length : Int) := by omega
  have hbk : 0 ≤ k ∧ k < (m.moves.length : Int) := by omega
  refine g_drawn TrydT_ok Tryd.func33 mixedT rfl ?_
  first | refine g_need TrydT_ok Tryd.func33 (by exact hbi) ?_ | refine s_need TrydT_ok (by exact hbi) ?_
  first | refine g_elem TrydT_ok Tryd.func33 (gx) ?_ | refine s_elem TrydT_ok (gx) ?_
  first | refine g_need TrydT_ok Tryd.func33 (by exact hbk) ?_ | refine s_need TrydT_ok (by exact hbk) ?_
  first | refine g_elem TrydT_ok Tryd.func33 (gy) ?_ | refine s_elem TrydT_ok (gy) ?_
  refine s_put TrydT_ok rfl rfl rfl ?_
  refine s_put TrydT_ok rfl rfl rfl ?_
  refine e_done TrydT_ok Tryd.func33 (by kernel_rfl) ?_
  first | refine g_cnd TrydT_ok Tryd.func33 rfl (fun h5 => ?_) (fun h5 => ?_) | refine g_know TrydT_ok Tryd.func33 rfl (fun h5 => ?_) (fun h5 => ?_) | refine s_know TrydT_ok (fun h5 => ?_) (fun h5 => ?_)
  · have := conf (.inl (beqT h5))
    subst this
    repeat (first | refine g_cnd TrydT_ok Tryd.func33 rfl (fun _ => ?_) (fun h => absurd h (by decide)) | refine g_cnd TrydT_ok Tryd.func33 rfl (fun h => absurd h (by decide)) (fun _ => ?_) | refine g_know TrydT_ok Tryd.func33 rfl (fun _ => ?_) (fun h => absurd h (by decide)) | refine g_know TrydT_ok Tryd.func33 rfl (fun h => absurd h (by decide)) (fun _ => ?_) | refine s_know TrydT_ok (fun _ => ?_) (fun h => absurd h (by decide)) | refine s_know TrydT_ok (fun h => absurd h (by decide)) (fun _ => ?_))
    refine g_ret_co TrydT_ok (r := _) rfl rfl rfl trivial rfl rfl ?_
    exact coNo
  have h5 := beqF h5
  first | refine g_cnd TrydT_ok Tryd.func33 rfl (fun h6 => ?_) (fun h6 => ?_) | refine g_know TrydT_ok Tryd.func33 rfl (fun h6 => ?_) (fun h6 => ?_) | refine s_know TrydT_ok (fun h6 => ?_) (fun h6 => ?_)
  · have := conf (.inr (.inl (bneT h6)))
    subst this
    repeat (first | refine g_cnd TrydT_ok Tryd.func33 rfl (fun _ => ?_) (fun h => absurd h (by decide)) | refine g_cnd TrydT_ok Tryd.func33 rfl (fun h => absurd h (by decide)) (fun _ => ?_) | refine g_know TrydT_ok Tryd.func33 rfl (fun _ => ?_) (fun h => absurd h (by decide)) | refine g_know TrydT_ok Tryd.func33 rfl (fun h => absurd h (by decide)) (fun _ => ?_) | refine s_know TrydT_ok (fun _ => ?_) (fun h => absurd h (by decide)) | refine s_know TrydT_ok (fun h => absurd h (by decide)) (fun _ => ?_))
    refine g_ret_co TrydT_ok (r := _) rfl rfl rfl trivial rfl rfl ?_
    exact coNo
  have h6 := bneF h6
  first | refine g_cnd TrydT_ok Tryd.func33 rfl (fun h7 => ?_) (fun h7 => ?_) | refine g_know TrydT_ok Tryd.func33 rfl (fun h7 => ?_) (fun h7 => ?_) | refine s_know TrydT_ok (fun h7 => ?_) (fun h7 => ?_)
  · have := conf (.inr (.inr (bneT h7)))
    subst this
    refine g_ret_co TrydT_ok (r := _) rfl rfl rfl trivial rfl rfl ?_
    exact coNo
  have h7 := bneF h7
  have hR := free (by rintro (h | h | h); exact h5 h; exact h h6; exact h h7)
  clear conf free
  refine g_stop ?_
  refine g_run TrydT_ok Tryd.func33 ?_
  refine g_go TrydT_ok Tryd.func33 ?_
  first | refine g_call TrydT_ok Tryd.func33 (hall _) rfl rfl rfl rfl rfl ?_ | refine s_callq TrydT_ok (fun _ => hall _) rfl rfl rfl ?_
  repeat (first | refine g_cnd TrydT_ok Tryd.func33 rfl (fun _ => ?_) (fun h => absurd h (by decide)) | refine g_cnd TrydT_ok Tryd.func33 rfl (fun h => absurd h (by decide)) (fun _ => ?_) | refine g_know TrydT_ok Tryd.func33 rfl (fun _ => ?_) (fun h => absurd h (by decide)) | refine g_know TrydT_ok Tryd.func33 rfl (fun h => absurd h (by decide)) (fun _ => ?_) | refine s_know TrydT_ok (fun _ => ?_) (fun h => absurd h (by decide)) | refine s_know TrydT_ok (fun h => absurd h (by decide)) (fun _ => ?_))
  refine g_loop ?_
  refine rch_loop2 (fun n : Nat => [(10, .own 0 10 0 0), (11, .own 0 11 0 0), (76, intss A), (77, ii A.length), (78, ii n)]) (fun _ => [(10, .box (mvC x)), (11, .box (mvC y))]) (fun _ => O) 94
    (fun n => n ≤ A.length ∧ R = firstR (A.drop n) x.g y.g) (fun n => A.length - n) 0 ⟨Nat.zero_le _, hR⟩ ⟨rfl, rfl, rfl, rfl, rfl, trivial⟩ rfl ⟨rfl, rfl, trivial⟩ rfl rfl ?_
  rintro n ⟨hn, hno⟩ ih
  clear hR
  refine g_run TrydT_ok Tryd.func33 ?_
  first | refine g_cnd TrydT_ok Tryd.func33 rfl (fun g1 => ?_) (fun g1 => ?_) | refine g_know TrydT_ok Tryd.func33 rfl (fun g1 => ?_) (fun g1 => ?_) | refine s_know TrydT_ok (fun g1 => ?_) (fun g1 => ?_)
  · have h8 : n < A.length := by simpa using g1
    clear g1
    have hd : A.drop n = A[n] :: A.drop (n + 1) := List.drop_eq_getElem_cons h8
    have hg : (A.map fun x => [intsI x])[(n : Int).toNat]? = some [intsI A[n]] := get_mapZ (f := fun x => [intsI x]) h8
    have hvl2 := hvals _ (List.getElem_mem h8)
    generalize A[n] = v at *
    have hx := fun O => holds53 O x.g v hgx.gok (by simp only [max63]; omega)
    have hy := fun O => holds53 O y.g v hgy.gok (by simp only [max63]; omega)
    have step : holdsB x.g v = false ∨ holdsB y.g v = false → R = firstR (A.drop (n + 1)) x.g y.g := by
      intro h
      rw [hno, hd]
      unfold firstR
      rw [List.find?_cons]
      have : (holdsB x.g v && holdsB y.g v) = false := by rcases h with h | h <;> simp [h]
      simp only [this]
    have hit : holdsB x.g v = true → holdsB y.g v = true → R = (v, true, 0) := by
      intro h h'
      rw [hno, hd]
      unfold firstR
      rw [List.find?_cons]
      simp only [h, h', Bool.and_self]
    clear hno
    generalize holdsB x.g v = bx at *
    generalize holdsB y.g v = bY at *
    first | refine g_need TrydT_ok Tryd.func33 (by exact ⟨by omega, by show (n : Int) < (A.length : Int); omega⟩) ?_ | refine s_need TrydT_ok (by exact ⟨by omega, by show (n : Int) < (A.length : Int); omega⟩) ?_
    first | refine g_elem TrydT_ok Tryd.func33 (hg) ?_ | refine s_elem TrydT_ok (hg) ?_
    first | refine g_call TrydT_ok Tryd.func33 (hx _) rfl rfl rfl rfl rfl ?_ | refine s_callq TrydT_ok (fun _ => hx _) rfl rfl rfl ?_
    first | refine g_cnd TrydT_ok Tryd.func33 rfl (fun h9 => ?_) (fun h9 => ?_) | refine g_know TrydT_ok Tryd.func33 rfl (fun h9 => ?_) (fun h9 => ?_) | refine s_know TrydT_ok (fun h9 => ?_) (fun h9 => ?_)
    · first | refine g_call TrydT_ok Tryd.func33 (hy _) rfl rfl rfl rfl rfl ?_ | refine s_callq TrydT_ok (fun _ => hy _) rfl rfl rfl ?_
      first | refine g_cnd TrydT_ok Tryd.func33 rfl (fun h10 => ?_) (fun h10 => ?_) | refine g_know TrydT_ok Tryd.func33 rfl (fun h10 => ?_) (fun h10 => ?_) | refine s_know TrydT_ok (fun h10 => ?_) (fun h10 => ?_)
      · have := hit h9 h10
        subst this
        refine g_ret TrydT_ok (r := .tup [ints v, bb true, ii 0]) rfl rfl rfl trivial rfl rfl ?_
        rfl
      · refine g_loop ?_
        exact ih (n + 1) _ _ ⟨h8, step (.inr h10)⟩ (by omega) ⟨rfl, rfl, rfl, rfl, congrArg ii (wsucc (n := 16) (by omega) (by decide)), trivial⟩ rfl ⟨rfl, rfl, trivial⟩ rfl rfl
    · repeat (first | refine g_cnd TrydT_ok Tryd.func33 rfl (fun _ => ?_) (fun h => absurd h (by decide)) | refine g_cnd TrydT_ok Tryd.func33 rfl (fun h => absurd h (by decide)) (fun _ => ?_) | refine g_know TrydT_ok Tryd.func33 rfl (fun _ => ?_) (fun h => absurd h (by decide)) | refine g_know TrydT_ok Tryd.func33 rfl (fun h => absurd h (by decide)) (fun _ => ?_) | refine s_know TrydT_ok (fun _ => ?_) (fun h => absurd h (by decide)) | refine s_know TrydT_ok (fun h => absurd h (by decide)) (fun _ => ?_))
      refine g_loop ?_
      exact ih (n + 1) _ _ ⟨h8, step (.inl h9)⟩ (by omega) ⟨rfl, rfl, rfl, rfl, congrArg ii (wsucc (n := 16) (by omega) (by decide)), trivial⟩ rfl ⟨rfl, rfl, trivial⟩ rfl rfl
  · have h8 : A.length ≤ n := by simpa using g1
    rw [List.drop_eq_nil_of_le h8] at hno
    have : R = ([], false, 0) := hno
    subst this
    refine g_ret_co TrydT_ok (r := _) rfl rfl rfl trivial rfl rfl ?_
    exact coNo
end Go.AI

namespace Go.AI
open Go.Proofs
set_option maxRecDepth 20000
/- All values within ranges are among all values. -/
theorem allV_mem {l : List Vr} {x : List Int} (h : within l x = true) : x ∈ allV l := by
  have key : ∀ (r : List Vr) (l2 : List Int) (out : List (List Int)) (l1 : List Int), l1 ∈ out → within r l2 = true → l1 ++ l2 ∈ r.foldl allStep out := by
    intro r
    induction r with
    | nil =>
      intro l2 out l1 h1 h2
      cases l2 with
      | nil => simpa using h1
      | cons a b => simp [within] at h2
    | cons v r ih =>
      intro l2 out l1 h1 h2
      cases l2 with
      | nil => simp [within] at h2
      | cons y ys =>
        simp only [within, Bool.and_eq_true, decide_eq_true_eq] at h2
        have h3 : l1 ++ [y] ∈ allStep out v := by
          unfold allStep
          rw [List.mem_flatMap]
          refine ⟨l1, h1, ?_⟩
          rw [List.mem_map]
          refine ⟨y, ?_, rfl⟩
          unfold rangeI
          rw [List.mem_map]
          exact ⟨(y - v.low).toNat, List.mem_range.2 (by omega), by omega⟩
        have := ih ys (allStep out v) (l1 ++ [y]) h3 h2.2
        rw [List.append_assoc] at this
        exact this
  have := key l x [[]] [] (by simp) h
  rw [List.nil_append] at this
  exact this
/- Two moves at once. -/
def hit (s : Sta) (ev : Int) (x : Mv) : Prop := x.frm = s.loc ∧ x.ev = ev ∧ holdsB x.g s.vals = true
theorem chs_two {s : Sta} {ev : Int} : ∀ {l : List Mv} {i : Nat} {out : Option Nat} {two : Bool}, (chs s ev l i out two).2 = 18 → two = true ∨ (out.isSome = true ∧ ∃ k, ∃ h : k < l.length, hit s ev l[k]) ∨ ∃ j k, ∃ h : k < l.length, ∃ h' : j < k, hit s ev (l[j]'(by omega)) ∧ hit s ev l[k]
  | [], i, out, two, h => by
    simp only [chs] at h
    cases two with
    | true => exact .inl rfl
    | false => simp at h
  | x :: r, i, out, two, h => by
    have lift : ∀ {o t}, (t = true ∨ (o.isSome = true ∧ ∃ k, ∃ h : k < r.length, hit s ev r[k]) ∨ ∃ j k, ∃ h : k < r.length, ∃ h' : j < k, hit s ev (r[j]'(by omega)) ∧ hit s ev r[k]) → t = two → o = out →
        two = true ∨ (out.isSome = true ∧ ∃ k, ∃ h : k < (x :: r).length, hit s ev (x :: r)[k]) ∨ ∃ j k, ∃ h : k < (x :: r).length, ∃ h' : j < k, hit s ev ((x :: r)[j]'(by omega)) ∧ hit s ev (x :: r)[k] := by
      rintro o t (h1 | ⟨h1, k, h2, h3⟩ | ⟨j, k, h2, h3, h4, h5⟩) e1 e2
      · exact .inl (e1 ▸ h1)
      · exact .inr (.inl ⟨e2 ▸ h1, k + 1, by simp; omega, by simpa using h3⟩)
      · exact .inr (.inr ⟨j + 1, k + 1, by simp; omega, by omega, by simpa using h4, by simpa using h5⟩)
    simp only [chs] at h
    split at h
    · exact lift (chs_two h) rfl rfl
    · rename_i hc
      split at h
      · simp at h
      · rename_i he
        split at h
        · rename_i hv
          have hx : hit s ev x := by
            refine ⟨?_, ?_, ?_⟩
            · apply Classical.byContradiction; intro hh; exact hc (.inl hh)
            · apply Classical.byContradiction; intro hh; exact hc (.inr hh)
            · unfold holdsB
              exact decide_eq_true ⟨by simpa using he, hv⟩
          rcases chs_two h with h1 | ⟨h1, k, h2, h3⟩ | ⟨j, k, h2, h3, h4, h5⟩
          · rw [Bool.or_eq_true] at h1
            rcases h1 with h1 | h1
            · exact .inr (.inl ⟨h1, 0, by simp, by simpa using hx⟩)
            · exact .inl h1
          · exact .inr (.inr ⟨0, k + 1, by simp; omega, by omega, by simpa using hx, by simpa using h3⟩)
          · exact .inr (.inr ⟨j + 1, k + 1, by simp; omega, by omega, by simpa using h4, by simpa using h5⟩)
        · exact lift (chs_two h) rfl rfl
theorem stepR_18 {m : Ext} {s : Sta} {ev : Int} (h : (stepR m s ev).2.2 = 18) : (chs s ev m.moves 0 none false).2 = 18 := by
  unfold stepR at h
  split at h
  · exact h
  · split at h
    · exact h
    · split at h
      · simp at h
      · split at h
        · simp at h
        · simp at h
theorem no_choice {m : Ext} {F : Srch} (h5 : Inv5 m F) (h6 : Inv6 m F) (hov : ∀ i j : Nat, j < i → i < m.moves.length → (overR m i j).2.1 = false) : F.kind ≠ 18 := by
  intro hk
  obtain ⟨k, ev, _, _, h1, h2⟩ := h6.f (by rw [hk]; decide)
  rw [hk] at h2
  rcases chs_two (stepR_18 h2) with h | ⟨h, _⟩ | ⟨j, i, hi, hji, hj2, hi2⟩
  · cases h
  · cases h
  · have hmem := allV_mem (h5.ok _ (List.getElem_mem h1)).2
    have := hov i j hji hi
    unfold overR at this
    rw [if_neg (by omega)] at this
    simp only [Int.toNat_natCast] at this
    rw [List.getElem?_eq_getElem hi, List.getElem?_eq_getElem (show j < m.moves.length by omega)] at this
    simp only at this
    rw [if_neg (by
      rintro (h | h | h)
      · omega
      · exact h (hi2.1.trans hj2.1.symm)
      · exact h (hi2.2.1.trans hj2.2.1.symm))] at this
    unfold firstR at this
    have hs : ((allV m.vars).find? fun v => holdsB m.moves[i].g v && holdsB m.moves[j].g v).isSome = true := by
      rw [List.find?_isSome]
      exact ⟨_, hmem, by rw [hi2.2.2, hj2.2.2]; rfl⟩
    cases hf : (allV m.vars).find? fun v => holdsB m.moves[i].g v && holdsB m.moves[j].g v with
    | none => rw [hf] at hs; cases hs
    | some v => rw [hf] at this; cases this
/- The moves themselves. -/
def chM (s : Sta) (ev : Int) : List Mv → Option Mv → Bool → Option Mv × Int
  | [], out, two => if two then (none, 18) else (out, 0)
  | x :: r, out, two =>
    if x.frm ≠ s.loc ∨ x.ev ≠ ev then chM s ev r out two else
    if (evalX x.g s.vals).2 ≠ 0 then (none, 17) else
    if (evalX x.g s.vals).1 = 1 then chM s ev r (some x) (out.isSome || two) else chM s ev r out two
theorem chs_chM {s : Sta} {ev : Int} (L : List Mv) : ∀ (l : List Mv) (i : Nat) (out : Option Nat) (two : Bool), L.drop i = l → (∀ k, out = some k → k < L.length) → chM s ev l (out.bind fun k => L[k]?) two = ((chs s ev l i out two).1.bind fun k => L[k]?, (chs s ev l i out two).2)
  | [], i, out, two, _, _ => by
    simp only [chM, chs]
    split <;> rfl
  | x :: r, i, out, two, h, ho => by
    obtain ⟨h1, h2, h3⟩ : i < L.length ∧ L[i]? = some x ∧ L.drop (i + 1) = r := by
      have h1 : i < L.length := by
        apply Nat.lt_of_not_le
        intro hc
        rw [List.drop_eq_nil_of_le hc] at h
        cases h
      rw [List.drop_eq_getElem_cons h1] at h
      simp only [List.cons.injEq] at h
      exact ⟨h1, by rw [List.getElem?_eq_getElem h1, h.1], h.2⟩
    simp only [chM, chs]
    split
    · exact chs_chM L r (i + 1) out two h3 ho
    · split
      · rfl
      · split
        · have := chs_chM (s := s) (ev := ev) L r (i + 1) (some i) (out.isSome || two) h3 (fun k e => by simp only [Option.some.injEq] at e; omega)
          simp only [Option.bind_some, h2] at this
          rw [← this]
          congr 2
          cases out with
          | none => rfl
          | some k =>
            have := ho k rfl
            simp [this]
        · exact chs_chM L r (i + 1) out two h3 ho
def stepM (m : Ext) (s : Sta) (c : Option Mv × Int) : Sta × Bool × Int := match c.1 with
  | none => (zeroS, false, c.2)
  | some x => if c.2 ≠ 0 then (zeroS, false, c.2) else match updR m s.vals x.us s.vals with
    | none => (zeroS, false, 17)
    | some acc => (⟨x.to, acc⟩, true, 0)
theorem stepR_M (m : Ext) (s : Sta) (ev : Int) : stepR m s ev = stepM m s (chM s ev m.moves none false) := by
  have h := chs_chM (s := s) (ev := ev) m.moves m.moves 0 none false rfl (by simp)
  simp only [Option.bind_none] at h
  rw [h]
  have hlt := @chs_lt s ev m.moves 0 none false
  unfold stepR stepM
  cases hc : (chs s ev m.moves 0 none false).1 with
  | none => rfl
  | some k =>
    have hk : k < m.moves.length := by have := hlt (k := k) (by simp) hc; omega
    simp only [Option.bind_some, List.getElem?_eq_getElem hk]
    rfl
theorem chM_filter {s : Sta} {ev : Int} {p : Mv → Bool} : ∀ (l : List Mv) (out : Option Mv) (two : Bool), (∀ x ∈ l, p x = false → (evalX x.g s.vals).2 = 0 ∧ (evalX x.g s.vals).1 ≠ 1) → chM s ev (l.filter p) out two = chM s ev l out two
  | [], _, _, _ => rfl
  | x :: r, out, two, h => by
    have ih := fun o t => chM_filter (s := s) (ev := ev) (p := p) r o t fun y hy => h y (by simp [hy])
    cases hp : p x with
    | true =>
      rw [List.filter_cons_of_pos hp]
      simp only [chM, ih]
    | false =>
      rw [List.filter_cons_of_neg (by rw [hp]; simp), ih]
      obtain ⟨h1, h2⟩ := h x (by simp) hp
      simp only [chM]
      split
      · rfl
      · simp [h1, h2]
/-- Without some moves. -/
def lessM (m : Ext) (p : Mv → Bool) : Ext := { m with moves := m.moves.filter p }
theorem updR_less (m : Ext) (p : Mv → Bool) (vals : List Int) : ∀ (us : List Upd) (acc : List Int), updR (lessM m p) vals us acc = updR m vals us acc
  | [], acc => rfl
  | u :: r, acc => by
    simp only [updR, updR_less m p vals r]
    rfl
theorem made_less {m : Ext} (hm : made m) (p : Mv → Bool) : made (lessM m p) := by
  refine ⟨hm.al, hm.lo, hm.ini, hm.vl, hm.v, Nat.le_trans (List.length_filter_le _ _) hm.ml, fun x hx => hm.mv x (List.mem_filter.1 hx).1, hm.sorted.filter _, hm.ve, hm.ma, hm.mal⟩
theorem step_less {m : Ext} {p : Mv → Bool} {s : Sta} {ev : Int} (h : ∀ x ∈ m.moves, p x = false → (evalX x.g s.vals).2 = 0 ∧ (evalX x.g s.vals).1 ≠ 1) : stepR (lessM m p) s ev = stepR m s ev := by
  rw [stepR_M, stepR_M]
  show stepM (lessM m p) s (chM s ev (m.moves.filter p) none false) = _
  rw [chM_filter _ _ _ h]
  unfold stepM
  simp only [updR_less]
theorem visits_less {m : Ext} (hm : made m) {p : Mv → Bool} {i : Nat} {s : Sta} (hstep : ∀ ev, stepR (lessM m p) s ev = stepR m s ev) : ∀ (l : List Int) (S : Srch), visits (lessM m p) i s l S = visits m i s l S
  | [], S => rfl
  | ev :: l, S => by
    have h : visit (lessM m p) i s ev S = visit m i s ev S := by
      unfold visit
      rw [hstep]
    simp only [visits, h]
    cases visit m i s ev S with
    | none => rfl
    | some S' => exact visits_less hm hstep l S'
theorem search_less {m : Ext} (hm : made m) {p : Mv → Bool} (h : ∀ s, okS m s → ∀ x ∈ m.moves, p x = false → (evalX x.g s.vals).2 = 0 ∧ (evalX x.g s.vals).1 ≠ 1) : ∀ (f i : Nat) (S : Srch), Inv5 m S → searchL (lessM m p) f i S = searchL m f i S
  | 0, _, _, _ => rfl
  | f + 1, i, S, h5 => by
    simp only [searchL]
    cases hs : S.sts[i]? with
    | none => rfl
    | some s =>
      obtain ⟨hlt, es⟩ := List.getElem?_eq_some_iff.1 hs
      have hoks := h5.ok s (es ▸ List.getElem_mem hlt)
      have hv : visits (lessM m p) i s (lessM m p).alpha S = visits m i s m.alpha S := visits_less hm (fun ev => step_less (h s hoks)) _ _
      obtain ⟨h1, h2, _⟩ := vts_inv hm (i := i) (s := s) hoks m.alpha h5 hlt
      simp only [hv, h1]
      exact search_less hm h f (i + 1) _ h2
theorem searchR_less {m : Ext} (hm : made m) {p : Mv → Bool} (h : ∀ s, okS m s → ∀ x ∈ m.moves, p x = false → (evalX x.g s.vals).2 = 0 ∧ (evalX x.g s.vals).1 ≠ 1) : searchR (lessM m p) = searchR m :=
  search_less hm h 4097 0 (search0 m) (inv0 hm)
/- Which ones are left out. -/
theorem mem_unL (A : List (List Int)) : ∀ (l : List Mv) (i : Nat) (x : Int), x ∈ unL A l i ↔ ∃ k, ∃ h : k < l.length, x = ((i + k : Nat) : Int) ∧ A.any (holdsB l[k].g) = false
  | [], i, x => by simp [unL]
  | y :: r, i, x => by
    have ih := mem_unL A r (i + 1) x
    have tail : (∃ k, ∃ h : k < r.length, x = ((i + 1 + k : Nat) : Int) ∧ A.any (holdsB r[k].g) = false) → ∃ k, ∃ h : k < (y :: r).length, x = ((i + k : Nat) : Int) ∧ A.any (holdsB (y :: r)[k].g) = false := by
      rintro ⟨k, h1, h2, h3⟩
      exact ⟨k + 1, by simp; omega, by omega, by simpa using h3⟩
    simp only [unL]
    split
    · rename_i hy
      rw [ih]
      refine ⟨tail, ?_⟩
      rintro ⟨k, h1, h2, h3⟩
      cases k with
      | zero => simp only [List.getElem_cons_zero] at h3; rw [hy] at h3; cases h3
      | succ k => exact ⟨k, by simpa using h1, by omega, by simpa using h3⟩
    · rename_i hy
      rw [List.mem_cons, ih]
      constructor
      · rintro (rfl | h)
        · exact ⟨0, by simp, by simp, by simpa using hy⟩
        · exact tail h
      · rintro ⟨k, h1, h2, h3⟩
        cases k with
        | zero => exact .inl (by simpa using h2)
        | succ k => exact .inr ⟨k, by simpa using h1, by omega, by simpa using h3⟩
def kp (u : List Int) : List Mv → Nat → List Mv
  | [], _ => []
  | x :: r, i => if (i : Int) ∈ u then kp u r (i + 1) else x :: kp u r (i + 1)
theorem kp_filter {u : List Int} {p : Mv → Bool} : ∀ (l : List Mv) (i : Nat), (∀ k, ∀ h : k < l.length, ((i + k : Nat) : Int) ∈ u ↔ p l[k] = false) → kp u l i = l.filter p
  | [], _, _ => rfl
  | x :: r, i, h => by
    have ih := kp_filter (u := u) (p := p) r (i + 1) fun k hk => by
      have := h (k + 1) (by simp; omega)
      rw [show i + (k + 1) = i + 1 + k by omega] at this
      simpa using this
    have h0 := h 0 (by simp)
    simp only [Nat.add_zero, List.getElem_cons_zero] at h0
    simp only [kp, ih]
    cases hp : p x with
    | true => rw [List.filter_cons_of_pos hp, if_neg (by rw [h0, hp]; simp)]
    | false => rw [List.filter_cons_of_neg (by rw [hp]; simp), if_pos (h0.2 hp)]
theorem kp_unused (m : Ext) : kp (unusedR m) m.moves 0 = (lessM m fun x => (allV m.vars).any (holdsB x.g)).moves := by
  refine kp_filter _ _ fun k hk => ?_
  unfold unusedR
  rw [mem_unL]
  constructor
  · rintro ⟨k', h1, h2, h3⟩
    obtain rfl : k = k' := by omega
    exact h3
  · intro h
    exact ⟨k, hk, rfl, h⟩
theorem kp_len (u : List Int) : ∀ (l : List Mv) (i : Nat), (kp u l i).length ≤ l.length
  | [], _ => Nat.le_refl _
  | x :: r, i => by
    have := kp_len u r (i + 1)
    simp only [kp]
    split <;> simp only [List.length_cons] <;> omega
/-- Does a guard overflow for some values? -/
def ovfB (A : List (List Int)) (x : Ex) : Bool := A.any fun v => decide ((evalX x v).2 ≠ 0)
/-- Leaving out unused moves that do not overflow changes nothing. -/
theorem leaves_same {m : Ext} (hm : made m) (hu : ∀ x ∈ unusedR m, ovfB (allV m.vars) (m.moves.getD x.toNat ⟨0, 0, 0, zeroE, []⟩).g = false) : searchR (lessM m fun x => (allV m.vars).any (holdsB x.g)) = searchR m := by
  refine searchR_less hm fun s hs x hx hp => ?_
  have hmem := allV_mem hs.2
  obtain ⟨k, hk, rfl⟩ := List.mem_iff_getElem.1 hx
  have h1 := hu (k : Int) (by unfold unusedR; rw [mem_unL]; exact ⟨k, hk, by simp, hp⟩)
  rw [Int.toNat_natCast, List.getD_eq_getElem?_getD, List.getElem?_eq_getElem hk, Option.getD_some] at h1
  unfold ovfB at h1
  rw [List.any_eq_false] at h1
  have h2 := h1 _ hmem
  rw [List.any_eq_false] at hp
  have h3 := hp _ hmem
  have h4 : (evalX m.moves[k].g s.vals).2 = 0 := by simpa using h2
  refine ⟨h4, fun h5 => h3 ?_⟩
  unfold holdsB
  exact decide_eq_true ⟨h4, h5⟩
end Go.AI

namespace Go.AI
open Go.Proofs
set_option maxRecDepth 20000
theorem unL_len (A : List (List Int)) : ∀ (l : List Mv) (i : Nat), (unL A l i).length ≤ l.length
  | [], i => Nat.le_refl _
  | x :: r, i => by
    have := unL_len A r (i + 1)
    simp only [unL]
    split
    · simp only [List.length_cons]; omega
    · simp only [List.length_cons]; omega
theorem drop_cons {α : Type} {l : List α} {n : Nat} {a : α} {r : List α} (h : l.drop n = a :: r) : n < l.length ∧ l[n]? = some a ∧ l.drop (n + 1) = r := by
  have h1 : n < l.length := by
    apply Nat.lt_of_not_le
    intro hc
    rw [List.drop_eq_nil_of_le hc] at h
    cases h
  rw [List.drop_eq_getElem_cons h1] at h
  simp only [List.cons.injEq] at h
  exact ⟨h1, by rw [List.getElem?_eq_getElem h1, h.1], h.2⟩
set_option maxHeartbeats 4000000 in
theorem overlaps8 {g : Nat} (hg : IsTab g) {ty : TypeId} {fr : Nat × Nat} (O : List Heap) (k : Sk) (i j : Int) (hk : skOk k) : ASpecT g (ptab ty fr) Tryd.prog 8 [skD k, ii i, ii j] O (bb true) [] O := by
  have hkn := fun O => known11 hg (ty := ty) (fr := fr) O
  have hmk := fun O => make16 O k hk
  have hm := make_made hk
  generalize makeR k = m at *
  have hok := made_ok hm
  have hall := fun O => all35 O m.vars hm.vl hm.v hm.ve
  have h33 := fun O => overlap33 O m i j hm
  have h34 := fun O => unused34 O m hm
  have h36 := fun O i (vals : List Int) hi hl => truths36 O m i vals hi hok hl
  have hvals := @allV_vals m.vars
  have hal := allV_len hm.vl hm.v
  have hml := hm.ml
  have hvl := hm.vl
  have hR : overR m i j = if i < 0 ∨ i ≥ m.moves.length ∨ j < 0 ∨ j ≥ m.moves.length then ([], false, 2) else
      match m.moves[i.toNat]?, m.moves[j.toNat]? with
      | some x, some y => if i = j ∨ x.frm ≠ y.frm ∨ x.ev ≠ y.ev then ([], false, 13) else firstR (allV m.vars) x.g y.g
      | _, _ => ([], false, 0) := rfl
  have hul : (unusedR m).length ≤ m.moves.length := unL_len _ _ _
  have hu : unusedR m = unL (allV m.vars) m.moves 0 := rfl
  generalize overR m i j = R at *
  generalize unusedR m = u at *
  generalize allV m.vars = A at *
  obtain ⟨ol, ob, oe⟩ := R
  simp only at h33
  refine aspecT_stop [9, 22, 24] TrydT_ok Tryd.func8 rfl Tryd.call8 Tryd.ntmps8 (Nat.le_of_ble_eq_true rfl) fun E hE => ?_
  refine g_run TrydT_ok Tryd.func8 ?_
  refine g_callT TrydT_ok Tryd.func8 hE (hkn _) rfl rfl rfl rfl rfl rfl ?_
  repeat (first | refine g_cnd TrydT_ok Tryd.func8 rfl (fun _ => ?_) (fun h => absurd h (by decide)) | refine g_cnd TrydT_ok Tryd.func8 rfl (fun h => absurd h (by decide)) (fun _ => ?_) | refine g_know TrydT_ok Tryd.func8 rfl (fun _ => ?_) (fun h => absurd h (by decide)) | refine g_know TrydT_ok Tryd.func8 rfl (fun h => absurd h (by decide)) (fun _ => ?_) | refine s_know TrydT_ok (fun _ => ?_) (fun h => absurd h (by decide)) | refine s_know TrydT_ok (fun h => absurd h (by decide)) (fun _ => ?_))
  first | refine g_call TrydT_ok Tryd.func8 (hmk _) rfl rfl rfl rfl rfl ?_ | refine s_callq TrydT_ok (fun _ => hmk _) rfl rfl rfl ?_
  first | refine g_call TrydT_ok Tryd.func8 (h33 _) rfl rfl rfl rfl rfl ?_ | refine s_callq TrydT_ok (fun _ => h33 _) rfl rfl rfl ?_
  first | refine g_call TrydT_ok Tryd.func8 (h34 _) rfl rfl rfl rfl rfl ?_ | refine s_callq TrydT_ok (fun _ => h34 _) rfl rfl rfl ?_
  first | refine g_call TrydT_ok Tryd.func8 (hall _) rfl rfl rfl rfl rfl ?_ | refine s_callq TrydT_ok (fun _ => hall _) rfl rfl rfl ?_
  repeat (first | refine g_cnd TrydT_ok Tryd.func8 rfl (fun _ => ?_) (fun h => absurd h (by decide)) | refine g_cnd TrydT_ok Tryd.func8 rfl (fun h => absurd h (by decide)) (fun _ => ?_) | refine g_know TrydT_ok Tryd.func8 rfl (fun _ => ?_) (fun h => absurd h (by decide)) | refine g_know TrydT_ok Tryd.func8 rfl (fun h => absurd h (by decide)) (fun _ => ?_) | refine s_know TrydT_ok (fun _ => ?_) (fun h => absurd h (by decide)) | refine s_know TrydT_ok (fun h => absurd h (by decide)) (fun _ => ?_))
  refine g_stop ?_
  refine rch_meet (l := [(1, ii i), (2, ii j), (7, .own 0 7 0 0), (8, ints ol), (9, bb ob), (10, ii oe), (11, ints u), (13, intss A)]) (Hv := [(7, .box (extC m))]) (n := 212) ?_ ⟨rfl, rfl, rfl, rfl, rfl, rfl, rfl, rfl, trivial⟩ rfl ⟨rfl, trivial⟩ rfl rfl
  clear hmk h33 h34 hall hkn
  apply join_p (P := True) (s6 := { σ := [(1, ii i), (2, ii j), (7, .own 0 7 0 0), (8, ints ol), (9, bb ob), (10, ii oe), (13, intss A)], S := [(7, .box (extC m))] :: O, n := 212 })
  · intro J
    refine g_run TrydT_ok Tryd.func8 ?_
    refine g_go TrydT_ok Tryd.func8 ?_
    refine g_loop ?_
    refine rch_loop2 (fun x : Nat × Nat => [(1, ii i), (2, ii j), (7, .own 0 7 0 0), (8, ints ol), (9, bb ob), (10, ii oe), (11, ints u), (13, intss A), (15, ii x.2), (16, ii x.1)]) (fun _ => [(7, .box (extC m))]) (fun _ => O) 212
      (fun x => x.1 ≤ m.moves.length ∧ x.2 ≤ u.length ∧ u.drop x.2 = unL A (m.moves.drop x.1) x.1) (fun x => m.moves.length - x.1) (0, 0) ⟨Nat.zero_le _, Nat.zero_le _, by rw [hu]; rfl⟩ ⟨rfl, rfl, rfl, rfl, rfl, rfl, rfl, rfl, rfl, rfl, trivial⟩ rfl ⟨rfl, trivial⟩ rfl rfl ?_
    rintro ⟨x, n⟩ ⟨hx, hn, hno⟩ ih
    simp only at hx hn hno
    refine g_run TrydT_ok Tryd.func8 ?_
    first | refine g_cnd TrydT_ok Tryd.func8 rfl (fun g1 => ?_) (fun g1 => ?_) | refine g_know TrydT_ok Tryd.func8 rfl (fun g1 => ?_) (fun g1 => ?_) | refine s_know TrydT_ok (fun g1 => ?_) (fun g1 => ?_)
    · have h1 : x < m.moves.length := by simpa using g1
      clear g1
      have hd : m.moves.drop x = m.moves[x] :: m.moves.drop (x + 1) := List.drop_eq_getElem_cons h1
      rw [hd] at hno
      simp only [unL] at hno
      have h36 := fun O vals hl => h36 O x vals h1 hl
      generalize m.moves[x] = mv at *
      refine g_loop ?_
      refine rch_loop2 (fun y : Nat × Bool => [(1, ii i), (2, ii j), (7, .own 0 7 0 0), (8, ints ol), (9, bb ob), (10, ii oe), (11, ints u), (13, intss A), (15, ii n), (16, ii x), (17, bb y.2), (18, ii y.1)]) (fun _ => [(7, .box (extC m))]) (fun _ => O) 212
        (fun y => y.1 ≤ A.length ∧ A.any (holdsB mv.g) = (y.2 || (A.drop y.1).any (holdsB mv.g))) (fun y => A.length - y.1) (0, false) ⟨Nat.zero_le _, by simp⟩ ⟨rfl, rfl, rfl, rfl, rfl, rfl, rfl, rfl, rfl, rfl, rfl, rfl, trivial⟩ rfl ⟨rfl, trivial⟩ rfl rfl ?_
      rintro ⟨v, b⟩ ⟨hv, hb⟩ ih2
      simp only at hv hb
      refine g_run TrydT_ok Tryd.func8 ?_
      first | refine g_cnd TrydT_ok Tryd.func8 rfl (fun g2 => ?_) (fun g2 => ?_) | refine g_know TrydT_ok Tryd.func8 rfl (fun g2 => ?_) (fun g2 => ?_) | refine s_know TrydT_ok (fun g2 => ?_) (fun g2 => ?_)
      · have h2 : v < A.length := by simpa using g2
        clear g2
        have hdA : A.drop v = A[v] :: A.drop (v + 1) := List.drop_eq_getElem_cons h2
        have hgA : (A.map fun x => [intsI x])[(v : Int).toNat]? = some [intsI A[v]] := get_mapZ (f := fun x => [intsI x]) h2
        have hvl2 := hvals _ (List.getElem_mem h2)
        generalize A[v] = vals at *
        rw [hdA, List.any_cons] at hb
        have h36 := fun O => h36 O vals (by simp only [max63]; omega)
        generalize holdsB mv.g vals = hv2 at *
        refine g_drawn TrydT_ok Tryd.func8 mixedT rfl ?_
        cases b with
        | true =>
          first | refine g_cnd TrydT_ok Tryd.func8 rfl (fun h3 => ?_) (fun h3 => ?_) | refine g_know TrydT_ok Tryd.func8 rfl (fun h3 => ?_) (fun h3 => ?_) | refine s_know TrydT_ok (fun h3 => ?_) (fun h3 => ?_)
          rotate_left
          · exact absurd h3 (by simp)
          refine e_done TrydT_ok Tryd.func8 (by kernel_rfl) ?_
          refine g_loop ?_
          exact ih2 (v + 1, true) _ _ ⟨h2, by rw [hb]; simp⟩ (by simp only; omega) ⟨rfl, rfl, rfl, rfl, rfl, rfl, rfl, rfl, rfl, rfl, rfl, congrArg ii (wsucc (n := 16) (by omega) (by decide)), trivial⟩ rfl ⟨rfl, trivial⟩ rfl rfl
        | false =>
          first | refine g_cnd TrydT_ok Tryd.func8 rfl (fun h3 => ?_) (fun h3 => ?_) | refine g_know TrydT_ok Tryd.func8 rfl (fun h3 => ?_) (fun h3 => ?_) | refine s_know TrydT_ok (fun h3 => ?_) (fun h3 => ?_)
          · exact absurd h3 (by simp)
          first | refine g_need TrydT_ok Tryd.func8 (by exact ⟨by omega, by show (v : Int) < (A.length : Int); omega⟩) ?_ | refine s_need TrydT_ok (by exact ⟨by omega, by show (v : Int) < (A.length : Int); omega⟩) ?_
          first | refine g_elem TrydT_ok Tryd.func8 (hgA) ?_ | refine s_elem TrydT_ok (hgA) ?_
          first | refine g_call TrydT_ok Tryd.func8 (h36 _) rfl rfl rfl rfl rfl ?_ | refine s_callq TrydT_ok (fun _ => h36 _) rfl rfl rfl ?_
          refine e_done TrydT_ok Tryd.func8 (by kernel_rfl) ?_
          refine g_loop ?_
          exact ih2 (v + 1, hv2) _ _ ⟨h2, by rw [hb]; simp⟩ (by simp only; omega) ⟨rfl, rfl, rfl, rfl, rfl, rfl, rfl, rfl, rfl, rfl, rfl, congrArg ii (wsucc (n := 16) (by omega) (by decide)), trivial⟩ rfl ⟨rfl, trivial⟩ rfl rfl
      · have h2 : A.length ≤ v := by simpa using g2
        clear g2 ih2
        rw [List.drop_eq_nil_of_le h2, List.any_nil, Bool.or_false] at hb
        rw [hb] at hno
        cases b with
        | true =>
          rw [if_pos rfl] at hno
          first | refine g_cnd TrydT_ok Tryd.func8 rfl (fun h3 => ?_) (fun h3 => ?_) | refine g_know TrydT_ok Tryd.func8 rfl (fun h3 => ?_) (fun h3 => ?_) | refine s_know TrydT_ok (fun h3 => ?_) (fun h3 => ?_)
          rotate_left
          · exact absurd h3 (by simp)
          refine g_loop ?_
          exact ih (x + 1, n) _ _ ⟨h1, hn, hno⟩ (by simp only; omega) ⟨rfl, rfl, rfl, rfl, rfl, rfl, rfl, rfl, rfl, congrArg ii (wsucc (n := 8) (by omega) (by decide)), trivial⟩ rfl ⟨rfl, trivial⟩ rfl rfl
        | false =>
          rw [if_neg (by simp)] at hno
          obtain ⟨hn1, hn2, hn3⟩ := drop_cons hno
          have hgu : (u.map fun x => [vi x])[(n : Int).toNat]? = some [vi (x : Int)] := by simp [hn2]
          first | refine g_cnd TrydT_ok Tryd.func8 rfl (fun h3 => ?_) (fun h3 => ?_) | refine g_know TrydT_ok Tryd.func8 rfl (fun h3 => ?_) (fun h3 => ?_) | refine s_know TrydT_ok (fun h3 => ?_) (fun h3 => ?_)
          · exact absurd h3 (by simp)
          first | refine g_cnd TrydT_ok Tryd.func8 rfl (fun h4 => ?_) (fun h4 => ?_) | refine g_know TrydT_ok Tryd.func8 rfl (fun h4 => ?_) (fun h4 => ?_) | refine s_know TrydT_ok (fun h4 => ?_) (fun h4 => ?_)
          · have h4 : (n : Int) ≥ (u.length : Int) := of_decide_eq_true h4
            omega
          first | refine g_need TrydT_ok Tryd.func8 (by exact ⟨by omega, by show (n : Int) < (u.length : Int); omega⟩) ?_ | refine s_need TrydT_ok (by exact ⟨by omega, by show (n : Int) < (u.length : Int); omega⟩) ?_
          first | refine g_elem TrydT_ok Tryd.func8 (hgu) ?_ | refine s_elem TrydT_ok (hgu) ?_
          first | refine g_cnd TrydT_ok Tryd.func8 rfl (fun h5 => ?_) (fun h5 => ?_) | refine g_know TrydT_ok Tryd.func8 rfl (fun h5 => ?_) (fun h5 => ?_) | refine s_know TrydT_ok (fun h5 => ?_) (fun h5 => ?_)
          · exact absurd rfl (bneT h5)
          refine g_loop ?_
          exact ih (x + 1, n + 1) _ _ ⟨h1, hn1, hn3⟩ (by simp only; omega) ⟨rfl, rfl, rfl, rfl, rfl, rfl, rfl, rfl, congrArg ii (wsucc (n := 8) (by omega) (by decide)), congrArg ii (wsucc (n := 8) (by omega) (by decide)), trivial⟩ rfl ⟨rfl, trivial⟩ rfl rfl
    · have h1 : m.moves.length ≤ x := by simpa using g1
      clear g1 ih
      rw [List.drop_eq_nil_of_le h1] at hno
      have hno : u.drop n = [] := hno
      rw [List.drop_eq_nil_iff] at hno
      refine g_stop ?_
      refine g_run TrydT_ok Tryd.func8 ?_
      refine g_go TrydT_ok Tryd.func8 ?_
      first | refine g_cnd TrydT_ok Tryd.func8 rfl (fun h2 => ?_) (fun h2 => ?_) | refine g_know TrydT_ok Tryd.func8 rfl (fun h2 => ?_) (fun h2 => ?_) | refine s_know TrydT_ok (fun h2 => ?_) (fun h2 => ?_)
      · have h2 := bneT h2
        exact absurd (by show (n : Int) = (u.length : Int); omega) h2
      refine g_stop ?_
      refine rch_meet (J trivial) ⟨rfl, rfl, rfl, rfl, rfl, rfl, rfl, trivial⟩ rfl ⟨rfl, trivial⟩ rfl rfl
  · intro _
    refine g_run TrydT_ok Tryd.func8 ?_
    refine g_go TrydT_ok Tryd.func8 ?_
    have out : (i < 0 ∨ i ≥ m.moves.length ∨ j < 0 ∨ j ≥ m.moves.length) → ol = [] ∧ ob = false ∧ oe = 2 := fun h => by
      rw [if_pos h] at hR
      simp only [Prod.mk.injEq] at hR
      exact hR
    first | refine g_cnd TrydT_ok Tryd.func8 rfl (fun h1 => ?_) (fun h1 => ?_) | refine g_know TrydT_ok Tryd.func8 rfl (fun h1 => ?_) (fun h1 => ?_) | refine s_know TrydT_ok (fun h1 => ?_) (fun h1 => ?_)
    · obtain ⟨rfl, rfl, rfl⟩ := out (.inl (of_decide_eq_true h1))
      repeat (first | refine g_cnd TrydT_ok Tryd.func8 rfl (fun _ => ?_) (fun h => absurd h (by decide)) | refine g_cnd TrydT_ok Tryd.func8 rfl (fun h => absurd h (by decide)) (fun _ => ?_) | refine g_know TrydT_ok Tryd.func8 rfl (fun _ => ?_) (fun h => absurd h (by decide)) | refine g_know TrydT_ok Tryd.func8 rfl (fun h => absurd h (by decide)) (fun _ => ?_) | refine s_know TrydT_ok (fun _ => ?_) (fun h => absurd h (by decide)) | refine s_know TrydT_ok (fun h => absurd h (by decide)) (fun _ => ?_))
      refine g_ret TrydT_ok (r := bb true) rfl rfl rfl trivial rfl rfl ?_
      rfl
    have h1 : ¬ i < 0 := of_decide_eq_false h1
    first | refine g_cnd TrydT_ok Tryd.func8 rfl (fun h2 => ?_) (fun h2 => ?_) | refine g_know TrydT_ok Tryd.func8 rfl (fun h2 => ?_) (fun h2 => ?_) | refine s_know TrydT_ok (fun h2 => ?_) (fun h2 => ?_)
    · obtain ⟨rfl, rfl, rfl⟩ := out (.inr (.inl (of_decide_eq_true h2)))
      repeat (first | refine g_cnd TrydT_ok Tryd.func8 rfl (fun _ => ?_) (fun h => absurd h (by decide)) | refine g_cnd TrydT_ok Tryd.func8 rfl (fun h => absurd h (by decide)) (fun _ => ?_) | refine g_know TrydT_ok Tryd.func8 rfl (fun _ => ?_) (fun h => absurd h (by decide)) | refine g_know TrydT_ok Tryd.func8 rfl (fun h => absurd h (by decide)) (fun _ => ?_) | refine s_know TrydT_ok (fun _ => ?_) (fun h => absurd h (by decide)) | refine s_know TrydT_ok (fun h => absurd h (by decide)) (fun _ => ?_))
      refine g_ret TrydT_ok (r := bb true) rfl rfl rfl trivial rfl rfl ?_
      rfl
    have h2 : ¬ i ≥ m.moves.length := of_decide_eq_false h2
    first | refine g_cnd TrydT_ok Tryd.func8 rfl (fun h3 => ?_) (fun h3 => ?_) | refine g_know TrydT_ok Tryd.func8 rfl (fun h3 => ?_) (fun h3 => ?_) | refine s_know TrydT_ok (fun h3 => ?_) (fun h3 => ?_)
    · obtain ⟨rfl, rfl, rfl⟩ := out (.inr (.inr (.inl (of_decide_eq_true h3))))
      repeat (first | refine g_cnd TrydT_ok Tryd.func8 rfl (fun _ => ?_) (fun h => absurd h (by decide)) | refine g_cnd TrydT_ok Tryd.func8 rfl (fun h => absurd h (by decide)) (fun _ => ?_) | refine g_know TrydT_ok Tryd.func8 rfl (fun _ => ?_) (fun h => absurd h (by decide)) | refine g_know TrydT_ok Tryd.func8 rfl (fun h => absurd h (by decide)) (fun _ => ?_) | refine s_know TrydT_ok (fun _ => ?_) (fun h => absurd h (by decide)) | refine s_know TrydT_ok (fun h => absurd h (by decide)) (fun _ => ?_))
      refine g_ret TrydT_ok (r := bb true) rfl rfl rfl trivial rfl rfl ?_
      rfl
    have h3 : ¬ j < 0 := of_decide_eq_false h3
    first | refine g_cnd TrydT_ok Tryd.func8 rfl (fun h4 => ?_) (fun h4 => ?_) | refine g_know TrydT_ok Tryd.func8 rfl (fun h4 => ?_) (fun h4 => ?_) | refine s_know TrydT_ok (fun h4 => ?_) (fun h4 => ?_)
    · obtain ⟨rfl, rfl, rfl⟩ := out (.inr (.inr (.inr (of_decide_eq_true h4))))
      repeat (first | refine g_cnd TrydT_ok Tryd.func8 rfl (fun _ => ?_) (fun h => absurd h (by decide)) | refine g_cnd TrydT_ok Tryd.func8 rfl (fun h => absurd h (by decide)) (fun _ => ?_) | refine g_know TrydT_ok Tryd.func8 rfl (fun _ => ?_) (fun h => absurd h (by decide)) | refine g_know TrydT_ok Tryd.func8 rfl (fun h => absurd h (by decide)) (fun _ => ?_) | refine s_know TrydT_ok (fun _ => ?_) (fun h => absurd h (by decide)) | refine s_know TrydT_ok (fun h => absurd h (by decide)) (fun _ => ?_))
      refine g_ret TrydT_ok (r := bb true) rfl rfl rfl trivial rfl rfl ?_
      rfl
    have h4 : ¬ j ≥ m.moves.length := of_decide_eq_false h4
    clear out
    rw [if_neg (by omega)] at hR
    have hi : i.toNat < m.moves.length := by omega
    have hj : j.toNat < m.moves.length := by omega
    have ei : i = ((i.toNat : Nat) : Int) := by omega
    have ej : j = ((j.toNat : Nat) : Int) := by omega
    have h36a := fun O vals hl => h36 O i.toNat vals hi hl
    have h36b := fun O vals hl => h36 O j.toNat vals hj hl
    rw [← ei] at h36a
    rw [← ej] at h36b
    rw [List.getElem?_eq_getElem hi, List.getElem?_eq_getElem hj] at hR
    simp only at hR
    have gx : (m.moves.map mvI)[i.toNat]? = some (mvI m.moves[i.toNat]) := by simp [hi]
    have gy : (m.moves.map mvI)[j.toNat]? = some (mvI m.moves[j.toNat]) := by simp [hj]
    have hbi : 0 ≤ i ∧ i < (m.moves.length : Int) := by omega
    have hbj : 0 ≤ j ∧ j < (m.moves.length : Int) := by omega
    generalize m.moves[i.toNat] = x at *
    generalize m.moves[j.toNat] = y at *
    have conf : (i = j ∨ x.frm ≠ y.frm ∨ x.ev ≠ y.ev) → ol = [] ∧ ob = false ∧ oe = 13 := fun h => by
      rw [if_pos h] at hR
      simp only [Prod.mk.injEq] at hR
      exact hR
    refine g_drawn TrydT_ok Tryd.func8 mixedT rfl ?_
    first | refine g_cnd TrydT_ok Tryd.func8 rfl (fun h5 => ?_) (fun h5 => ?_) | refine g_know TrydT_ok Tryd.func8 rfl (fun h5 => ?_) (fun h5 => ?_) | refine s_know TrydT_ok (fun h5 => ?_) (fun h5 => ?_)
    · obtain ⟨rfl, rfl, rfl⟩ := conf (.inl (beqT h5))
      repeat (first | refine g_cnd TrydT_ok Tryd.func8 rfl (fun _ => ?_) (fun h => absurd h (by decide)) | refine g_cnd TrydT_ok Tryd.func8 rfl (fun h => absurd h (by decide)) (fun _ => ?_) | refine g_know TrydT_ok Tryd.func8 rfl (fun _ => ?_) (fun h => absurd h (by decide)) | refine g_know TrydT_ok Tryd.func8 rfl (fun h => absurd h (by decide)) (fun _ => ?_) | refine s_know TrydT_ok (fun _ => ?_) (fun h => absurd h (by decide)) | refine s_know TrydT_ok (fun h => absurd h (by decide)) (fun _ => ?_))
      refine e_done TrydT_ok Tryd.func8 (by kernel_rfl) ?_
      repeat (first | refine g_cnd TrydT_ok Tryd.func8 rfl (fun _ => ?_) (fun h => absurd h (by decide)) | refine g_cnd TrydT_ok Tryd.func8 rfl (fun h => absurd h (by decide)) (fun _ => ?_) | refine g_know TrydT_ok Tryd.func8 rfl (fun _ => ?_) (fun h => absurd h (by decide)) | refine g_know TrydT_ok Tryd.func8 rfl (fun h => absurd h (by decide)) (fun _ => ?_) | refine s_know TrydT_ok (fun _ => ?_) (fun h => absurd h (by decide)) | refine s_know TrydT_ok (fun h => absurd h (by decide)) (fun _ => ?_))
      refine g_ret TrydT_ok (r := bb true) rfl rfl rfl trivial rfl rfl ?_
      rfl
    have h5 := beqF h5
    first | refine g_need TrydT_ok Tryd.func8 (by exact hbi) ?_ | refine s_need TrydT_ok (by exact hbi) ?_
    first | refine g_elem TrydT_ok Tryd.func8 (gx) ?_ | refine s_elem TrydT_ok (gx) ?_
    first | refine g_need TrydT_ok Tryd.func8 (by exact hbj) ?_ | refine s_need TrydT_ok (by exact hbj) ?_
    first | refine g_elem TrydT_ok Tryd.func8 (gy) ?_ | refine s_elem TrydT_ok (gy) ?_
    first | refine g_cnd TrydT_ok Tryd.func8 rfl (fun h6 => ?_) (fun h6 => ?_) | refine g_know TrydT_ok Tryd.func8 rfl (fun h6 => ?_) (fun h6 => ?_) | refine s_know TrydT_ok (fun h6 => ?_) (fun h6 => ?_)
    · obtain ⟨rfl, rfl, rfl⟩ := conf (.inr (.inl (bneT h6)))
      refine e_done TrydT_ok Tryd.func8 (by kernel_rfl) ?_
      repeat (first | refine g_cnd TrydT_ok Tryd.func8 rfl (fun _ => ?_) (fun h => absurd h (by decide)) | refine g_cnd TrydT_ok Tryd.func8 rfl (fun h => absurd h (by decide)) (fun _ => ?_) | refine g_know TrydT_ok Tryd.func8 rfl (fun _ => ?_) (fun h => absurd h (by decide)) | refine g_know TrydT_ok Tryd.func8 rfl (fun h => absurd h (by decide)) (fun _ => ?_) | refine s_know TrydT_ok (fun _ => ?_) (fun h => absurd h (by decide)) | refine s_know TrydT_ok (fun h => absurd h (by decide)) (fun _ => ?_))
      refine g_ret TrydT_ok (r := bb true) rfl rfl rfl trivial rfl rfl ?_
      rfl
    have h6 := bneF h6
    first | refine g_need TrydT_ok Tryd.func8 (by exact hbi) ?_ | refine s_need TrydT_ok (by exact hbi) ?_
    first | refine g_elem TrydT_ok Tryd.func8 (gx) ?_ | refine s_elem TrydT_ok (gx) ?_
    first | refine g_need TrydT_ok Tryd.func8 (by exact hbj) ?_ | refine s_need TrydT_ok (by exact hbj) ?_
    first | refine g_elem TrydT_ok Tryd.func8 (gy) ?_ | refine s_elem TrydT_ok (gy) ?_
    refine e_done TrydT_ok Tryd.func8 (by kernel_rfl) ?_
    first | refine g_cnd TrydT_ok Tryd.func8 rfl (fun h7 => ?_) (fun h7 => ?_) | refine g_know TrydT_ok Tryd.func8 rfl (fun h7 => ?_) (fun h7 => ?_) | refine s_know TrydT_ok (fun h7 => ?_) (fun h7 => ?_)
    · obtain ⟨rfl, rfl, rfl⟩ := conf (.inr (.inr (bneT h7)))
      repeat (first | refine g_cnd TrydT_ok Tryd.func8 rfl (fun _ => ?_) (fun h => absurd h (by decide)) | refine g_cnd TrydT_ok Tryd.func8 rfl (fun h => absurd h (by decide)) (fun _ => ?_) | refine g_know TrydT_ok Tryd.func8 rfl (fun _ => ?_) (fun h => absurd h (by decide)) | refine g_know TrydT_ok Tryd.func8 rfl (fun h => absurd h (by decide)) (fun _ => ?_) | refine s_know TrydT_ok (fun _ => ?_) (fun h => absurd h (by decide)) | refine s_know TrydT_ok (fun h => absurd h (by decide)) (fun _ => ?_))
      refine g_ret TrydT_ok (r := bb true) rfl rfl rfl trivial rfl rfl ?_
      rfl
    have h7 := bneF h7
    rw [if_neg (by rintro (h | h | h); exact h5 h; exact h h6; exact h h7)] at hR
    clear conf
    refine g_loop ?_
    refine rch_loop2 (fun n : Nat => [(1, ii i), (2, ii j), (7, .own 0 7 0 0), (8, ints ol), (9, bb ob), (10, ii oe), (13, intss A), (19, ii n)]) (fun _ => [(7, .box (extC m))]) (fun _ => O) 212
      (fun n => n ≤ A.length ∧ (ol, ob, oe) = firstR (A.drop n) x.g y.g) (fun n => A.length - n) 0 ⟨Nat.zero_le _, hR⟩ ⟨rfl, rfl, rfl, rfl, rfl, rfl, rfl, rfl, trivial⟩ rfl ⟨rfl, trivial⟩ rfl rfl ?_
    rintro n ⟨hn, hno⟩ ih
    clear hR
    refine g_run TrydT_ok Tryd.func8 ?_
    first | refine g_cnd TrydT_ok Tryd.func8 rfl (fun g1 => ?_) (fun g1 => ?_) | refine g_know TrydT_ok Tryd.func8 rfl (fun g1 => ?_) (fun g1 => ?_) | refine s_know TrydT_ok (fun g1 => ?_) (fun g1 => ?_)
    · have h8 : n < A.length := by simpa using g1
      clear g1
      have hd : A.drop n = A[n] :: A.drop (n + 1) := List.drop_eq_getElem_cons h8
      have hgA : (A.map fun x => [intsI x])[(n : Int).toNat]? = some [intsI A[n]] := get_mapZ (f := fun x => [intsI x]) h8
      have hvl2 := hvals _ (List.getElem_mem h8)
      generalize A[n] = v at *
      have hx := fun O => h36a O v (by simp only [max63]; omega)
      have hy := fun O => h36b O v (by simp only [max63]; omega)
      have step : holdsB x.g v = false ∨ holdsB y.g v = false → (ol, ob, oe) = firstR (A.drop (n + 1)) x.g y.g := by
        intro h
        rw [hno, hd]
        unfold firstR
        rw [List.find?_cons]
        have : (holdsB x.g v && holdsB y.g v) = false := by rcases h with h | h <;> simp [h]
        simp only [this]
      have hit : holdsB x.g v = true → holdsB y.g v = true → ol = v ∧ ob = true ∧ oe = 0 := by
        intro h h'
        rw [hd] at hno
        unfold firstR at hno
        rw [List.find?_cons] at hno
        simp only [h, h', Bool.and_self, Prod.mk.injEq] at hno
        exact hno
      clear hno
      generalize holdsB x.g v = bx at *
      generalize holdsB y.g v = bY at *
      have hvb : 0 ≤ (n : Int) ∧ (n : Int) < (A.length : Int) := by omega
      refine g_drawn TrydT_ok Tryd.func8 mixedT rfl ?_
      first | refine g_need TrydT_ok Tryd.func8 (by exact hvb) ?_ | refine s_need TrydT_ok (by exact hvb) ?_
      first | refine g_elem TrydT_ok Tryd.func8 (hgA) ?_ | refine s_elem TrydT_ok (hgA) ?_
      first | refine g_call TrydT_ok Tryd.func8 (hx _) rfl rfl rfl rfl rfl ?_ | refine s_callq TrydT_ok (fun _ => hx _) rfl rfl rfl ?_
      first | refine g_cnd TrydT_ok Tryd.func8 rfl (fun h9 => ?_) (fun h9 => ?_) | refine g_know TrydT_ok Tryd.func8 rfl (fun h9 => ?_) (fun h9 => ?_) | refine s_know TrydT_ok (fun h9 => ?_) (fun h9 => ?_)
      · first | refine g_need TrydT_ok Tryd.func8 (by exact hvb) ?_ | refine s_need TrydT_ok (by exact hvb) ?_
        first | refine g_elem TrydT_ok Tryd.func8 (hgA) ?_ | refine s_elem TrydT_ok (hgA) ?_
        first | refine g_call TrydT_ok Tryd.func8 (hy _) rfl rfl rfl rfl rfl ?_ | refine s_callq TrydT_ok (fun _ => hy _) rfl rfl rfl ?_
        refine e_done TrydT_ok Tryd.func8 (by kernel_rfl) ?_
        first | refine g_cnd TrydT_ok Tryd.func8 rfl (fun h10 => ?_) (fun h10 => ?_) | refine g_know TrydT_ok Tryd.func8 rfl (fun h10 => ?_) (fun h10 => ?_) | refine s_know TrydT_ok (fun h10 => ?_) (fun h10 => ?_)
        · obtain ⟨rfl, rfl, rfl⟩ := hit h9 h10
          have hw := fun O => wordEqual19 O ol ol (by simp only [max63]; omega)
          first | refine g_need TrydT_ok Tryd.func8 (by exact hvb) ?_ | refine s_need TrydT_ok (by exact hvb) ?_
          first | refine g_elem TrydT_ok Tryd.func8 (hgA) ?_ | refine s_elem TrydT_ok (hgA) ?_
          first | refine g_call TrydT_ok Tryd.func8 (hw _) rfl rfl rfl rfl rfl ?_ | refine s_callq TrydT_ok (fun _ => hw _) rfl rfl rfl ?_
          first | refine g_cnd TrydT_ok Tryd.func8 rfl (fun h11 => ?_) (fun h11 => ?_) | refine g_know TrydT_ok Tryd.func8 rfl (fun h11 => ?_) (fun h11 => ?_) | refine s_know TrydT_ok (fun h11 => ?_) (fun h11 => ?_)
          rotate_left
          · exact absurd h11 (by simp)
          repeat (first | refine g_cnd TrydT_ok Tryd.func8 rfl (fun _ => ?_) (fun h => absurd h (by decide)) | refine g_cnd TrydT_ok Tryd.func8 rfl (fun h => absurd h (by decide)) (fun _ => ?_) | refine g_know TrydT_ok Tryd.func8 rfl (fun _ => ?_) (fun h => absurd h (by decide)) | refine g_know TrydT_ok Tryd.func8 rfl (fun h => absurd h (by decide)) (fun _ => ?_) | refine s_know TrydT_ok (fun _ => ?_) (fun h => absurd h (by decide)) | refine s_know TrydT_ok (fun h => absurd h (by decide)) (fun _ => ?_))
          refine g_ret TrydT_ok (r := bb true) rfl rfl rfl trivial rfl rfl ?_
          rfl
        · refine g_loop ?_
          exact ih (n + 1) _ _ ⟨h8, step (.inr h10)⟩ (by omega) ⟨rfl, rfl, rfl, rfl, rfl, rfl, rfl, congrArg ii (wsucc (n := 16) (by omega) (by decide)), trivial⟩ rfl ⟨rfl, trivial⟩ rfl rfl
      · refine e_done TrydT_ok Tryd.func8 (by kernel_rfl) ?_
        repeat (first | refine g_cnd TrydT_ok Tryd.func8 rfl (fun _ => ?_) (fun h => absurd h (by decide)) | refine g_cnd TrydT_ok Tryd.func8 rfl (fun h => absurd h (by decide)) (fun _ => ?_) | refine g_know TrydT_ok Tryd.func8 rfl (fun _ => ?_) (fun h => absurd h (by decide)) | refine g_know TrydT_ok Tryd.func8 rfl (fun h => absurd h (by decide)) (fun _ => ?_) | refine s_know TrydT_ok (fun _ => ?_) (fun h => absurd h (by decide)) | refine s_know TrydT_ok (fun h => absurd h (by decide)) (fun _ => ?_))
        refine g_loop ?_
        exact ih (n + 1) _ _ ⟨h8, step (.inl h9)⟩ (by omega) ⟨rfl, rfl, rfl, rfl, rfl, rfl, rfl, congrArg ii (wsucc (n := 16) (by omega) (by decide)), trivial⟩ rfl ⟨rfl, trivial⟩ rfl rfl
    · have h8 : A.length ≤ n := by simpa using g1
      rw [List.drop_eq_nil_of_le h8] at hno
      have hno : (ol, ob, oe) = ([], false, 0) := hno
      simp only [Prod.mk.injEq] at hno
      obtain ⟨rfl, rfl, rfl⟩ := hno
      repeat (first | refine g_cnd TrydT_ok Tryd.func8 rfl (fun _ => ?_) (fun h => absurd h (by decide)) | refine g_cnd TrydT_ok Tryd.func8 rfl (fun h => absurd h (by decide)) (fun _ => ?_) | refine g_know TrydT_ok Tryd.func8 rfl (fun _ => ?_) (fun h => absurd h (by decide)) | refine g_know TrydT_ok Tryd.func8 rfl (fun h => absurd h (by decide)) (fun _ => ?_) | refine s_know TrydT_ok (fun _ => ?_) (fun h => absurd h (by decide)) | refine s_know TrydT_ok (fun h => absurd h (by decide)) (fun _ => ?_))
      refine g_ret TrydT_ok (r := bb true) rfl rfl rfl trivial rfl rfl ?_
      rfl
end Go.AI
