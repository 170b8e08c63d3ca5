/- The layer of abstract runs, part 41. -/
import Derived.Test.YtonnakcgopcfnaaDoorIvyZN
import Derived.WideKeyArgs
import Derived.Lib.SmallJoins
import Derived.Deep.Slices
set_option linter.unusedSimpArgs false
set_option linter.unusedVariables false
set_option linter.all false

namespace Go.AI
open Go.Proofs
set_option maxRecDepth 20000
theorem os2 {S : List Heap} {d nm : Nat} (a b : Ob) (d' n' : Nat) : objAt (setAt S d nm b) d' n' = objAt (setAt (setAt S d nm a) d nm b) d' n' := objAt_set2 d' n'
theorem os3 {S : List Heap} {d nm : Nat} (a b c : Ob) (d' n' : Nat) : objAt (setAt S d nm c) d' n' = objAt (setAt (setAt (setAt S d nm a) d nm b) d nm c) d' n' := (os2 a c d' n').trans (os2 b c d' n')
structure byt (b : Int) : Prop where
  h0 : 0 ≤ b
  h1 : b ≤ 255
theorem byt.m8 {b : Int} (h : byt b) : b.tmod 8 = b % 8 := Int.tmod_eq_emod_of_nonneg h.h0
theorem byt.m2 {b : Int} (h : byt b) : b.tmod 2 = b % 2 := Int.tmod_eq_emod_of_nonneg h.h0
theorem byt.q8 {b : Int} (h : byt b) : IntKind.i64.wrap (b.tdiv 8) = b / 8 := by
  rw [Int.tdiv_eq_ediv_of_nonneg h.h0]
  have := h.h0
  have := h.h1
  rw [w64 (by omega) (by omega)]
theorem byt.q8m {b : Int} (h : byt b) {m : Int} : (IntKind.i64.wrap (b.tdiv 8)).tmod m = b / 8 % m := by
  rw [h.q8, Int.tmod_eq_emod_of_nonneg (by have := h.h0; omega)]
theorem byt.q8a {b : Int} (h : byt b) {m c : Int} (hm : 0 < m) (h1 : m ≤ 10) (hc : 0 ≤ c) (h2 : c ≤ 20) : IntKind.i64.wrap (c + (IntKind.i64.wrap (b.tdiv 8)).tmod m) = c + b / 8 % m := by
  rw [h.q8m]
  have := Int.emod_nonneg (b / 8) (show m ≠ 0 by omega)
  have := Int.emod_lt_of_pos (b / 8) hm
  rw [w64 (by omega) (by omega)]
theorem byt.q8s {b : Int} (h : byt b) : IntKind.i64.wrap (IntKind.i64.wrap (b.tdiv 8) - 8) = b / 8 - 8 := by
  rw [h.q8]
  have := h.h0
  have := h.h1
  rw [w64 (by omega) (by omega)]
abbrev exIa (x : Ex) : List I := [vi x.op, vi x.vl, vi x.ix, .sl 4 x.args.length (exIs x.args)]
theorem exA1 (o : Int) (a : Ex) : exA (.mk o 0 0 [a]) = .agg [ii o, ii 0, ii 0, .i (.sl 4 1 [exIa a])] := by simp [Ex.op, Ex.vl, Ex.ix, Ex.args, exIs, exI_eq]
theorem exA2 (o : Int) (a b : Ex) : exA (.mk o 0 0 [a, b]) = .agg [ii o, ii 0, ii 0, .i (.sl 4 2 [exIa a, exIa b])] := by simp [Ex.op, Ex.vl, Ex.ix, Ex.args, exIs, exI_eq]
theorem exA3 (o : Int) (a b c : Ex) : exA (.mk o 0 0 [a, b, c]) = .agg [ii o, ii 0, ii 0, .i (.sl 4 3 [exIa a, exIa b, exIa c])] := by simp [Ex.op, Ex.vl, Ex.ix, Ex.args, exIs, exI_eq]
def tyOf (t : Bool) : Int := match t with
  | true => 1
  | false => 2
def GrowS (vars : Int) (lv : Nat) (t : Bool) : Prop := ∀ (bs : List Int) (k : Nat) (levels : Int), levels = (lv : Int) + 1 → byteOk bs → bs.length ≤ max63 → k + 4 ^ (lv + 1) ≤ max63 → ∀ (O : List Heap) (d nm : Nat), objAt O d nm = some (growOb bs vars k) →
    ASpec Tryd.prog 74 [.own d nm 0 0, ii (tyOf t), ii levels] O (exA (growR vars lv t bs k).1) [] (setAt O d nm (growOb (growR vars lv t bs k).2.1 vars (growR vars lv t bs k).2.2))
theorem grow_stepT (vars : Int) (hv : 0 ≤ vars) (lv : Nat) (hl10 : lv ≤ 10) (ih : ∀ lv', lv = lv' + 1 → ∀ t, GrowS vars lv' t) : GrowS vars lv true := by
  obtain ⟨t, ht⟩ : ∃ t, t = true := ⟨_, rfl⟩
  rw [← ht]
  intro bs k levels hlv hb hbl hk O d nm ho
  have hO1 : ∀ H, objAt (H :: O) (d + 1) nm = some (growOb bs vars k) := fun H => by simpa [objAt] using ho
  have hn := fun O ho => next80 O (d + 1) nm bs vars (IntKind.i64.wrap ((k : Int) + 1)) hb hbl ho
  have hkk : (k : Int) + 1 ≤ 9223372036854775807 := by
    simp only [max63] at hk
    have : 1 ≤ 4 ^ (lv + 1) := Nat.one_le_pow _ _ (by decide)
    omega
  have hkw : IntKind.i64.wrap ((k : Int) + 1) = ((k + 1 : Nat) : Int) := by
    rw [w64 (by omega) (by omega)]
    omega
  have hby : byt (b0 bs) := ⟨(b0_ok hb).1, (b0_ok hb).2⟩
  have hbt := byteOk_tail hb
  have hbtl : bs.tail.length ≤ max63 := Nat.le_trans (by simp) hbl
  have hlw : lv ≠ 0 → IntKind.i64.wrap (levels - 1) = (lv : Int) := fun h => by rw [w64 (by omega) (by omega)]; omega
  -- the children
  have child : ∀ lv', lv = lv' + 1 → ∀ t' bs' k', byteOk bs' → bs'.length ≤ max63 → k' + 4 ^ (lv' + 1) ≤ max63 → ∀ O d nm, objAt O d nm = some (growOb bs' vars ((k' : Nat) : Int)) →
      ASpec Tryd.prog 74 [.own d nm 0 0, ii (tyOf t'), ii (IntKind.i64.wrap (levels - 1))] O (exA (growR vars lv' t' bs' k').1) [] (setAt O d nm (growOb (growR vars lv' t' bs' k').2.1 vars (growR vars lv' t' bs' k').2.2)) := by
    intro lv' e t' bs' k' h1 h2 h3
    exact ih lv' e t' bs' k' _ (by rw [hlw (by omega), e]; omega) h1 h2 h3
  have gok := fun lv' => growR_ok vars lv'
  have hpow : ∀ lv', lv = lv' + 1 → 4 ^ (lv + 1) = 4 * 4 ^ (lv' + 1) ∧ 1 ≤ 4 ^ (lv' + 1) := fun lv' e => by subst e; rw [Nat.pow_succ]; exact ⟨by omega, Nat.one_le_pow _ _ (by decide)⟩
  generalize hR : growR vars lv t bs k = R
  -- what the expression is, case by case
  have hleaf : t = true → lv = 0 ∨ k + 1 > 12 ∨ b0 bs % 8 < 4 → R = (leafE vars (b0 bs), bs.tail, k + 1) := by
    intro e h
    subst e
    rw [← hR]
    cases lv with
    | zero => simp only [growR]
    | succ lv' => simp only [growR]; rw [if_pos (by omega)]
  have htruth : t = false → lv = 0 → R = (truthE (decide (b0 bs % 2 = 0)), bs.tail, k + 1) := by
    intro e h
    subst e h
    rw [← hR]
    simp only [growR]
  have hT : ∀ lv', lv = lv' + 1 → t = true → ¬ (k + 1 > 12 ∨ b0 bs % 8 < 4) → R = if b0 bs % 8 = 4 then (.mk 5 0 0 [(growR vars lv' true bs.tail (k + 1)).1], (growR vars lv' true bs.tail (k + 1)).2) else
    if b0 bs % 8 = 5 then
      (.mk 13 0 0 [(growR vars lv' false bs.tail (k + 1)).1, (growR vars lv' true (growR vars lv' false bs.tail (k + 1)).2.1 (growR vars lv' false bs.tail (k + 1)).2.2).1,
        (growR vars lv' true (growR vars lv' true (growR vars lv' false bs.tail (k + 1)).2.1 (growR vars lv' false bs.tail (k + 1)).2.2).2.1 (growR vars lv' true (growR vars lv' false bs.tail (k + 1)).2.1 (growR vars lv' false bs.tail (k + 1)).2.2).2.2).1],
        (growR vars lv' true (growR vars lv' true (growR vars lv' false bs.tail (k + 1)).2.1 (growR vars lv' false bs.tail (k + 1)).2.2).2.1 (growR vars lv' true (growR vars lv' false bs.tail (k + 1)).2.1 (growR vars lv' false bs.tail (k + 1)).2.2).2.2).2)
    else (.mk (2 + b0 bs / 8 % 3) 0 0 [(growR vars lv' true bs.tail (k + 1)).1, (growR vars lv' true (growR vars lv' true bs.tail (k + 1)).2.1 (growR vars lv' true bs.tail (k + 1)).2.2).1],
        (growR vars lv' true (growR vars lv' true bs.tail (k + 1)).2.1 (growR vars lv' true bs.tail (k + 1)).2.2).2) := by
    intro lv' e e2 h
    subst e e2
    rw [← hR]
    simp only [growR]
    rw [if_neg h]
  have hF : ∀ lv', lv = lv' + 1 → t = false → R = if lv' = 0 ∨ k + 1 > 12 ∨ b0 bs % 8 < 4 then (.mk (6 + b0 bs / 8 % 4) 0 0 [(growR vars lv' true bs.tail (k + 1)).1, (growR vars lv' true (growR vars lv' true bs.tail (k + 1)).2.1 (growR vars lv' true bs.tail (k + 1)).2.2).1],
        (growR vars lv' true (growR vars lv' true bs.tail (k + 1)).2.1 (growR vars lv' true bs.tail (k + 1)).2.2).2) else
    if b0 bs % 8 = 4 then (.mk 10 0 0 [(growR vars lv' false bs.tail (k + 1)).1], (growR vars lv' false bs.tail (k + 1)).2) else
    if b0 bs % 8 = 5 then
      (.mk 13 0 0 [(growR vars lv' false bs.tail (k + 1)).1, (growR vars lv' false (growR vars lv' false bs.tail (k + 1)).2.1 (growR vars lv' false bs.tail (k + 1)).2.2).1,
        (growR vars lv' false (growR vars lv' false (growR vars lv' false bs.tail (k + 1)).2.1 (growR vars lv' false bs.tail (k + 1)).2.2).2.1 (growR vars lv' false (growR vars lv' false bs.tail (k + 1)).2.1 (growR vars lv' false bs.tail (k + 1)).2.2).2.2).1],
        (growR vars lv' false (growR vars lv' false (growR vars lv' false bs.tail (k + 1)).2.1 (growR vars lv' false bs.tail (k + 1)).2.2).2.1 (growR vars lv' false (growR vars lv' false bs.tail (k + 1)).2.1 (growR vars lv' false bs.tail (k + 1)).2.2).2.2).2)
    else (.mk (11 + b0 bs / 8 % 2) 0 0 [(growR vars lv' false bs.tail (k + 1)).1, (growR vars lv' false (growR vars lv' false bs.tail (k + 1)).2.1 (growR vars lv' false bs.tail (k + 1)).2.2).1],
        (growR vars lv' false (growR vars lv' false bs.tail (k + 1)).2.1 (growR vars lv' false bs.tail (k + 1)).2.2).2) := by
    intro lv' e e2
    subst e e2
    rw [← hR]
    simp only [growR]
  clear hR ih
  have hlev : levels ≤ 1 ↔ lv = 0 := by omega
  refine aspec_stop [3, 5, 17] Tk Tryd.func74 rfl Tryd.call74 Tryd.ntmps74 (Nat.le_of_ble_eq_true rfl) fun E => ?_
  refine g_run Tk Tryd.func74 ?_
  first | refine g_obj Tk Tryd.func74 (hO1 _) ?_ | refine s_obj Tk (hO1 _) ?_
  first | refine g_obj Tk Tryd.func74 (hO1 _) ?_ | refine s_obj Tk (hO1 _) ?_
  refine g_call Tk Tryd.func74 (hn _ (by exact up_obj (objAt_set_same ho))) rfl rfl rfl (shape_cons (shape_set (objAt_set_same ho) rfl)) rfl ?_
  obtain ⟨O2, hO2⟩ : ∃ O2, O2 = setAt O d nm (growOb bs.tail vars ((k + 1 : Nat) : Int)) := ⟨_, rfl⟩
  have ho2 : objAt O2 d nm = some (growOb bs.tail vars ((k + 1 : Nat) : Int)) := by rw [hO2]; exact objAt_set_same ho
  have hfin : ∀ c d' n', objAt (setAt O d nm c) d' n' = objAt (setAt O2 d nm c) d' n' := fun c => by rw [hO2]; exact os2 _ _
  have hfin0 : ∀ d' n', objAt (setAt O d nm (growOb bs.tail vars ((k + 1 : Nat) : Int))) d' n' = objAt O2 d' n' := fun d' n' => by rw [hO2]
  have hO3 : ∀ H, objAt (H :: O2) (d + 1) nm = some (growOb bs.tail vars ((k + 1 : Nat) : Int)) := fun H => by simpa [objAt] using ho2
  refine g_stop ?_
  refine rch_wk (wk_S (S' := [(6, Ob.box [ii 0, ii 0, ii 0, .i (.v (.slice none 0 0))])] :: O2) (objAt_cons (by rw [hO2, hkw]; exact os2 _ _))) ?_
  refine rch_meet (l := [(0, .own (d + 1) nm 0 0), (1, ii (tyOf t)), (2, ii levels), (6, .own 0 6 0 0), (7, ii (b0 bs))]) (Hv := [(6, .box [ii 0, ii 0, ii 0, .i (.v (.slice none 0 0))])]) (n := 183) ?_ ⟨rfl, rfl, rfl, rfl, rfl, trivial⟩ rfl ⟨rfl, trivial⟩ rfl rfl
  clear hn hO2 hO1
  generalize b0 bs = b at *
  cases t with
  | true =>
    have hleaf := hleaf rfl
    apply join_p (P := lv = 0 ∨ k + 1 > 12 ∨ b % 8 < 4) (s6 := { σ := [(0, .own (d + 1) nm 0 0), (6, .own 0 6 0 0), (7, ii b)], S := [(6, .box [ii 0, ii 0, ii 0, .i (.v (.slice none 0 0))])] :: O2, n := 183 })
    · intro J
      refine g_run Tk Tryd.func74 ?_
      refine g_go Tk Tryd.func74 ?_
      first | refine g_cnd Tk Tryd.func74 rfl (fun _ => ?_) (fun h => absurd h (by decide)) | refine g_know Tk Tryd.func74 rfl (fun _ => ?_) (fun h => absurd h (by decide)) | refine s_know Tk (fun _ => ?_) (fun h => absurd h (by decide))
      first | refine g_cnd Tk Tryd.func74 rfl (fun h1 => ?_) (fun h1 => ?_) | refine g_know Tk Tryd.func74 rfl (fun h1 => ?_) (fun h1 => ?_) | refine s_know Tk (fun h1 => ?_) (fun h1 => ?_)
      · repeat (first | refine g_cnd Tk Tryd.func74 rfl (fun _ => ?_) (fun h => absurd h (by decide)) | refine g_cnd Tk Tryd.func74 rfl (fun h => absurd h (by decide)) (fun _ => ?_) | refine g_know Tk Tryd.func74 rfl (fun _ => ?_) (fun h => absurd h (by decide)) | refine g_know Tk Tryd.func74 rfl (fun h => absurd h (by decide)) (fun _ => ?_) | refine s_know Tk (fun _ => ?_) (fun h => absurd h (by decide)) | refine s_know Tk (fun h => absurd h (by decide)) (fun _ => ?_))
        refine g_stop ?_
        exact rch_fit (J (.inl (hlev.1 (of_decide_eq_true h1)))) ⟨rfl, rfl, rfl, trivial⟩ rfl rfl
      have h1 : lv ≠ 0 := fun e => of_decide_eq_false h1 (hlev.2 e)
      first | refine g_obj Tk Tryd.func74 (hO3 _) ?_ | refine s_obj Tk (hO3 _) ?_
      first | refine g_cnd Tk Tryd.func74 rfl (fun h2 => ?_) (fun h2 => ?_) | refine g_know Tk Tryd.func74 rfl (fun h2 => ?_) (fun h2 => ?_) | refine s_know Tk (fun h2 => ?_) (fun h2 => ?_)
      · first | refine g_cnd Tk Tryd.func74 rfl (fun _ => ?_) (fun h => absurd h (by decide)) | refine g_know Tk Tryd.func74 rfl (fun _ => ?_) (fun h => absurd h (by decide)) | refine s_know Tk (fun _ => ?_) (fun h => absurd h (by decide))
        refine g_stop ?_
        exact rch_fit (J (.inr (.inl (by have := of_decide_eq_true h2; omega)))) ⟨rfl, rfl, rfl, trivial⟩ rfl rfl
      have h2 : ¬ k + 1 > 12 := by have := of_decide_eq_false h2; omega
      first | refine g_need Tk Tryd.func74 (by decide) ?_ | refine s_need Tk (by decide) ?_
      first | refine g_cnd Tk Tryd.func74 rfl (fun h3 => ?_) (fun h3 => ?_) | refine g_know Tk Tryd.func74 rfl (fun h3 => ?_) (fun h3 => ?_) | refine s_know Tk (fun h3 => ?_) (fun h3 => ?_)
      · refine g_stop ?_
        exact rch_fit (J (.inr (.inr (by have := of_decide_eq_true h3; rw [hby.m8] at this; exact this)))) ⟨rfl, rfl, rfl, trivial⟩ rfl rfl
      have h3 : ¬ b % 8 < 4 := by have := of_decide_eq_false h3; rw [hby.m8] at this; exact this
      obtain ⟨lv', elv⟩ : ∃ lv', lv = lv' + 1 := ⟨lv - 1, by omega⟩
      have hT := hT lv' elv rfl (by omega)
      have hp := hpow lv' elv
      have child := child lv' elv
      have gok := gok lv'
      clear J hleaf hF htruth hpow hlev
      first | refine g_need Tk Tryd.func74 (by decide) ?_ | refine s_need Tk (by decide) ?_
      first | refine g_cnd Tk Tryd.func74 rfl (fun h4 => ?_) (fun h4 => ?_) | refine g_know Tk Tryd.func74 rfl (fun h4 => ?_) (fun h4 => ?_) | refine s_know Tk (fun h4 => ?_) (fun h4 => ?_)
      · have h4 := beqT h4
        rw [hby.m8] at h4
        rw [if_pos h4] at hT
        subst hT
        have c1 := fun O ho => child true bs.tail (k + 1) hbt hbtl (by omega) O (d + 1) nm ho
        refine g_call Tk Tryd.func74 (c1 _ (by exact up_obj ho2)) rfl rfl rfl (shape_cons (shape_set ho2 rfl)) rfl ?_
        refine g_rwk (wk_S (S' := _ :: setAt O d nm _) (objAt_cons (hfin _))) ?_
        refine g_ret Tk (r := _) rfl rfl rfl trivial rfl rfl ?_
        exact (exA1 _ _).symm
      have h4 : b % 8 ≠ 4 := by have := beqF h4; rw [hby.m8] at this; exact this
      rw [if_neg h4] at hT
      first | refine g_cnd Tk Tryd.func74 rfl (fun h5 => ?_) (fun h5 => ?_) | refine g_know Tk Tryd.func74 rfl (fun h5 => ?_) (fun h5 => ?_) | refine s_know Tk (fun h5 => ?_) (fun h5 => ?_)
      · have h5 := beqT h5
        rw [hby.m8] at h5
        rw [if_pos h5] at hT
        have g1 := gok false bs.tail (k + 1) hbt
        have c1 := fun O ho => child false bs.tail (k + 1) hbt hbtl (by omega) O (d + 1) nm ho
        generalize growR vars lv' false bs.tail (k + 1) = A at *
        have gk1 := g1.k
        have gl1 := Nat.le_trans g1.l hbtl
        have g2 := gok true A.2.1 A.2.2 g1.b
        have c2 := fun O ho => child true A.2.1 A.2.2 g1.b gl1 (by omega) O (d + 1) nm ho
        generalize growR vars lv' true A.2.1 A.2.2 = B at *
        have gk2 := g2.k
        have gl2 := Nat.le_trans g2.l gl1
        have g3 := gok true B.2.1 B.2.2 g2.b
        have c3 := fun O ho => child true B.2.1 B.2.2 g2.b gl2 (by omega) O (d + 1) nm ho
        generalize growR vars lv' true B.2.1 B.2.2 = C at *
        subst hT
        refine g_call Tk Tryd.func74 (c1 _ (by exact up_obj ho2)) rfl rfl rfl (shape_cons (shape_set ho2 rfl)) rfl ?_
        refine g_call Tk Tryd.func74 (c2 _ (by exact up_obj (objAt_set_same ho2))) rfl rfl rfl (shape_cons (shape_set (objAt_set_same ho2) rfl)) rfl ?_
        refine g_call Tk Tryd.func74 (c3 _ (by exact up_obj (objAt_set_same (objAt_set_same ho2)))) rfl rfl rfl (shape_cons (shape_set (objAt_set_same (objAt_set_same ho2)) rfl)) rfl ?_
        refine g_rwk (wk_S (S' := _ :: setAt O d nm _) (objAt_cons fun d' n' => (hfin _ d' n').trans (os3 _ _ _ d' n'))) ?_
        refine g_ret Tk (r := _) rfl rfl rfl trivial rfl rfl ?_
        exact (exA3 _ _ _ _).symm
      have h5 : b % 8 ≠ 5 := by have := beqF h5; rw [hby.m8] at this; exact this
      rw [if_neg h5] at hT
      first | refine g_need Tk Tryd.func74 (by decide) ?_ | refine s_need Tk (by decide) ?_
      first | refine g_need Tk Tryd.func74 (by decide) ?_ | refine s_need Tk (by decide) ?_
      have g1 := gok true bs.tail (k + 1) hbt
      have c1 := fun O ho => child true bs.tail (k + 1) hbt hbtl (by omega) O (d + 1) nm ho
      generalize growR vars lv' true bs.tail (k + 1) = A at *
      have gk1 := g1.k
      have gl1 := Nat.le_trans g1.l hbtl
      have c2 := fun O ho => child true A.2.1 A.2.2 g1.b gl1 (by omega) O (d + 1) nm ho
      generalize growR vars lv' true A.2.1 A.2.2 = B at *
      subst hT
      refine g_call Tk Tryd.func74 (c1 _ (by exact up_obj ho2)) rfl rfl rfl (shape_cons (shape_set ho2 rfl)) rfl ?_
      refine g_call Tk Tryd.func74 (c2 _ (by exact up_obj (objAt_set_same ho2))) rfl rfl rfl (shape_cons (shape_set (objAt_set_same ho2) rfl)) rfl ?_
      refine g_rwk (wk_S (S' := _ :: setAt O d nm _) (objAt_cons fun d' n' => (hfin _ d' n').trans (os2 _ _ d' n'))) ?_
      refine g_ret Tk (r := _) rfl rfl rfl trivial rfl rfl ?_
      rw [← hby.q8a (by decide) (by decide) (by decide) (by decide)]
      exact (exA2 _ _ _).symm
    · intro hP
      have hleaf := hleaf hP
      subst hleaf
      generalize hL : leafE vars b = L
      unfold leafE at hL
      refine g_run Tk Tryd.func74 ?_
      refine g_go Tk Tryd.func74 ?_
      first | refine g_need Tk Tryd.func74 (by decide) ?_ | refine s_need Tk (by decide) ?_
      first | refine g_cnd Tk Tryd.func74 rfl (fun h1 => ?_) (fun h1 => ?_) | refine g_know Tk Tryd.func74 rfl (fun h1 => ?_) (fun h1 => ?_) | refine s_know Tk (fun h1 => ?_) (fun h1 => ?_)
      · have h1 := beqT h1
        rw [hby.m2] at h1
        first | refine g_obj Tk Tryd.func74 (hO3 _) ?_ | refine s_obj Tk (hO3 _) ?_
        first | refine g_cnd Tk Tryd.func74 rfl (fun h2 => ?_) (fun h2 => ?_) | refine g_know Tk Tryd.func74 rfl (fun h2 => ?_) (fun h2 => ?_) | refine s_know Tk (fun h2 => ?_) (fun h2 => ?_)
        · have h2 : 0 < vars := of_decide_eq_true h2
          rw [if_pos ⟨h1, h2⟩] at hL
          subst hL
          first | refine g_need Tk Tryd.func74 (by decide) ?_ | refine s_need Tk (by decide) ?_
          first | refine g_obj Tk Tryd.func74 (hO3 _) ?_ | refine s_obj Tk (hO3 _) ?_
          first | refine g_need Tk Tryd.func74 (by omega) ?_ | refine s_need Tk (by omega) ?_
          refine g_rwk (wk_S (S' := _ :: setAt O d nm _) (objAt_cons hfin0)) ?_
          refine g_ret_co Tk (r := _) rfl rfl rfl trivial rfl rfl ?_
          rw [← hby.q8m]
          repeat' (first | refine coD_tup ?_ | refine coD_agg ?_ | refine coD_i ?_ | refine CoDL.cons ?_ ?_ | exact CoDL.nil | exact coI_nil | refine coI_sl ?_ | refine CoLL.cons ?_ ?_ | exact CoLL.nil | refine CoL.cons ?_ ?_ | exact CoL.nil | exact CoI.refl _ | exact CoL.refl _ | exact CoLL.refl _ | exact CoDL.refl _ | exact CoD.refl _)
        · have h2 : ¬ 0 < vars := of_decide_eq_false h2
          rw [if_neg (by omega)] at hL
          subst hL
          first | refine g_need Tk Tryd.func74 (by decide) ?_ | refine s_need Tk (by decide) ?_
          refine g_rwk (wk_S (S' := _ :: setAt O d nm _) (objAt_cons hfin0)) ?_
          refine g_ret_co Tk (r := _) rfl rfl rfl trivial rfl rfl ?_
          rw [← hby.q8s]
          repeat' (first | refine coD_tup ?_ | refine coD_agg ?_ | refine coD_i ?_ | refine CoDL.cons ?_ ?_ | exact CoDL.nil | exact coI_nil | refine coI_sl ?_ | refine CoLL.cons ?_ ?_ | exact CoLL.nil | refine CoL.cons ?_ ?_ | exact CoL.nil | exact CoI.refl _ | exact CoL.refl _ | exact CoLL.refl _ | exact CoDL.refl _ | exact CoD.refl _)
      · have h1 := beqF h1
        rw [hby.m2] at h1
        rw [if_neg (by omega)] at hL
        subst hL
        first | refine g_cnd Tk Tryd.func74 rfl (fun h => absurd h (by decide)) (fun _ => ?_) | refine g_know Tk Tryd.func74 rfl (fun h => absurd h (by decide)) (fun _ => ?_) | refine s_know Tk (fun h => absurd h (by decide)) (fun _ => ?_)
        first | refine g_need Tk Tryd.func74 (by decide) ?_ | refine s_need Tk (by decide) ?_
        refine g_rwk (wk_S (S' := _ :: setAt O d nm _) (objAt_cons hfin0)) ?_
        refine g_ret_co Tk (r := _) rfl rfl rfl trivial rfl rfl ?_
        rw [← hby.q8s]
        repeat' (first | refine coD_tup ?_ | refine coD_agg ?_ | refine coD_i ?_ | refine CoDL.cons ?_ ?_ | exact CoDL.nil | exact coI_nil | refine coI_sl ?_ | refine CoLL.cons ?_ ?_ | exact CoLL.nil | refine CoL.cons ?_ ?_ | exact CoL.nil | exact CoI.refl _ | exact CoL.refl _ | exact CoLL.refl _ | exact CoDL.refl _ | exact CoD.refl _)
  | false => cases ht
theorem grow_stepF (vars : Int) (hv : 0 ≤ vars) (lv : Nat) (hl10 : lv ≤ 10) (ih : ∀ lv', lv = lv' + 1 → ∀ t, GrowS vars lv' t) : GrowS vars lv false := by
  obtain ⟨t, ht⟩ : ∃ t, t = false := ⟨_, rfl⟩
  rw [← ht]
  intro bs k levels hlv hb hbl hk O d nm ho
  have hO1 : ∀ H, objAt (H :: O) (d + 1) nm = some (growOb bs vars k) := fun H => by simpa [objAt] using ho
  have hn := fun O ho => next80 O (d + 1) nm bs vars (IntKind.i64.wrap ((k : Int) + 1)) hb hbl ho
  have hkk : (k : Int) + 1 ≤ 9223372036854775807 := by
    simp only [max63] at hk
    have : 1 ≤ 4 ^ (lv + 1) := Nat.one_le_pow _ _ (by decide)
    omega
  have hkw : IntKind.i64.wrap ((k : Int) + 1) = ((k + 1 : Nat) : Int) := by
    rw [w64 (by omega) (by omega)]
    omega
  have hby : byt (b0 bs) := ⟨(b0_ok hb).1, (b0_ok hb).2⟩
  have hbt := byteOk_tail hb
  have hbtl : bs.tail.length ≤ max63 := Nat.le_trans (by simp) hbl
  have hlw : lv ≠ 0 → IntKind.i64.wrap (levels - 1) = (lv : Int) := fun h => by rw [w64 (by omega) (by omega)]; omega
  -- the children
  have child : ∀ lv', lv = lv' + 1 → ∀ t' bs' k', byteOk bs' → bs'.length ≤ max63 → k' + 4 ^ (lv' + 1) ≤ max63 → ∀ O d nm, objAt O d nm = some (growOb bs' vars ((k' : Nat) : Int)) →
      ASpec Tryd.prog 74 [.own d nm 0 0, ii (tyOf t'), ii (IntKind.i64.wrap (levels - 1))] O (exA (growR vars lv' t' bs' k').1) [] (setAt O d nm (growOb (growR vars lv' t' bs' k').2.1 vars (growR vars lv' t' bs' k').2.2)) := by
    intro lv' e t' bs' k' h1 h2 h3
    exact ih lv' e t' bs' k' _ (by rw [hlw (by omega), e]; omega) h1 h2 h3
  have gok := fun lv' => growR_ok vars lv'
  have hpow : ∀ lv', lv = lv' + 1 → 4 ^ (lv + 1) = 4 * 4 ^ (lv' + 1) ∧ 1 ≤ 4 ^ (lv' + 1) := fun lv' e => by subst e; rw [Nat.pow_succ]; exact ⟨by omega, Nat.one_le_pow _ _ (by decide)⟩
  generalize hR : growR vars lv t bs k = R
  -- what the expression is, case by case
  have hleaf : t = true → lv = 0 ∨ k + 1 > 12 ∨ b0 bs % 8 < 4 → R = (leafE vars (b0 bs), bs.tail, k + 1) := by
    intro e h
    subst e
    rw [← hR]
    cases lv with
    | zero => simp only [growR]
    | succ lv' => simp only [growR]; rw [if_pos (by omega)]
  have htruth : t = false → lv = 0 → R = (truthE (decide (b0 bs % 2 = 0)), bs.tail, k + 1) := by
    intro e h
    subst e h
    rw [← hR]
    simp only [growR]
  have hT : ∀ lv', lv = lv' + 1 → t = true → ¬ (k + 1 > 12 ∨ b0 bs % 8 < 4) → R = if b0 bs % 8 = 4 then (.mk 5 0 0 [(growR vars lv' true bs.tail (k + 1)).1], (growR vars lv' true bs.tail (k + 1)).2) else
    if b0 bs % 8 = 5 then
      (.mk 13 0 0 [(growR vars lv' false bs.tail (k + 1)).1, (growR vars lv' true (growR vars lv' false bs.tail (k + 1)).2.1 (growR vars lv' false bs.tail (k + 1)).2.2).1,
        (growR vars lv' true (growR vars lv' true (growR vars lv' false bs.tail (k + 1)).2.1 (growR vars lv' false bs.tail (k + 1)).2.2).2.1 (growR vars lv' true (growR vars lv' false bs.tail (k + 1)).2.1 (growR vars lv' false bs.tail (k + 1)).2.2).2.2).1],
        (growR vars lv' true (growR vars lv' true (growR vars lv' false bs.tail (k + 1)).2.1 (growR vars lv' false bs.tail (k + 1)).2.2).2.1 (growR vars lv' true (growR vars lv' false bs.tail (k + 1)).2.1 (growR vars lv' false bs.tail (k + 1)).2.2).2.2).2)
    else (.mk (2 + b0 bs / 8 % 3) 0 0 [(growR vars lv' true bs.tail (k + 1)).1, (growR vars lv' true (growR vars lv' true bs.tail (k + 1)).2.1 (growR vars lv' true bs.tail (k + 1)).2.2).1],
        (growR vars lv' true (growR vars lv' true bs.tail (k + 1)).2.1 (growR vars lv' true bs.tail (k + 1)).2.2).2) := by
    intro lv' e e2 h
    subst e e2
    rw [← hR]
    simp only [growR]
    rw [if_neg h]
  have hF : ∀ lv', lv = lv' + 1 → t = false → R = if lv' = 0 ∨ k + 1 > 12 ∨ b0 bs % 8 < 4 then (.mk (6 + b0 bs / 8 % 4) 0 0 [(growR vars lv' true bs.tail (k + 1)).1, (growR vars lv' true (growR vars lv' true bs.tail (k + 1)).2.1 (growR vars lv' true bs.tail (k + 1)).2.2).1],
        (growR vars lv' true (growR vars lv' true bs.tail (k + 1)).2.1 (growR vars lv' true bs.tail (k + 1)).2.2).2) else
    if b0 bs % 8 = 4 then (.mk 10 0 0 [(growR vars lv' false bs.tail (k + 1)).1], (growR vars lv' false bs.tail (k + 1)).2) else
    if b0 bs % 8 = 5 then
      (.mk 13 0 0 [(growR vars lv' false bs.tail (k + 1)).1, (growR vars lv' false (growR vars lv' false bs.tail (k + 1)).2.1 (growR vars lv' false bs.tail (k + 1)).2.2).1,
        (growR vars lv' false (growR vars lv' false (growR vars lv' false bs.tail (k + 1)).2.1 (growR vars lv' false bs.tail (k + 1)).2.2).2.1 (growR vars lv' false (growR vars lv' false bs.tail (k + 1)).2.1 (growR vars lv' false bs.tail (k + 1)).2.2).2.2).1],
        (growR vars lv' false (growR vars lv' false (growR vars lv' false bs.tail (k + 1)).2.1 (growR vars lv' false bs.tail (k + 1)).2.2).2.1 (growR vars lv' false (growR vars lv' false bs.tail (k + 1)).2.1 (growR vars lv' false bs.tail (k + 1)).2.2).2.2).2)
    else (.mk (11 + b0 bs / 8 % 2) 0 0 [(growR vars lv' false bs.tail (k + 1)).1, (growR vars lv' false (growR vars lv' false bs.tail (k + 1)).2.1 (growR vars lv' false bs.tail (k + 1)).2.2).1],
        (growR vars lv' false (growR vars lv' false bs.tail (k + 1)).2.1 (growR vars lv' false bs.tail (k + 1)).2.2).2) := by
    intro lv' e e2
    subst e e2
    rw [← hR]
    simp only [growR]
  clear hR ih
  have hlev : levels ≤ 1 ↔ lv = 0 := by omega
  refine aspec_stop [3, 5, 17] Tk Tryd.func74 rfl Tryd.call74 Tryd.ntmps74 (Nat.le_of_ble_eq_true rfl) fun E => ?_
  refine g_run Tk Tryd.func74 ?_
  first | refine g_obj Tk Tryd.func74 (hO1 _) ?_ | refine s_obj Tk (hO1 _) ?_
  first | refine g_obj Tk Tryd.func74 (hO1 _) ?_ | refine s_obj Tk (hO1 _) ?_
  refine g_call Tk Tryd.func74 (hn _ (by exact up_obj (objAt_set_same ho))) rfl rfl rfl (shape_cons (shape_set (objAt_set_same ho) rfl)) rfl ?_
  obtain ⟨O2, hO2⟩ : ∃ O2, O2 = setAt O d nm (growOb bs.tail vars ((k + 1 : Nat) : Int)) := ⟨_, rfl⟩
  have ho2 : objAt O2 d nm = some (growOb bs.tail vars ((k + 1 : Nat) : Int)) := by rw [hO2]; exact objAt_set_same ho
  have hfin : ∀ c d' n', objAt (setAt O d nm c) d' n' = objAt (setAt O2 d nm c) d' n' := fun c => by rw [hO2]; exact os2 _ _
  have hfin0 : ∀ d' n', objAt (setAt O d nm (growOb bs.tail vars ((k + 1 : Nat) : Int))) d' n' = objAt O2 d' n' := fun d' n' => by rw [hO2]
  have hO3 : ∀ H, objAt (H :: O2) (d + 1) nm = some (growOb bs.tail vars ((k + 1 : Nat) : Int)) := fun H => by simpa [objAt] using ho2
  refine g_stop ?_
  refine rch_wk (wk_S (S' := [(6, Ob.box [ii 0, ii 0, ii 0, .i (.v (.slice none 0 0))])] :: O2) (objAt_cons (by rw [hO2, hkw]; exact os2 _ _))) ?_
  refine rch_meet (l := [(0, .own (d + 1) nm 0 0), (1, ii (tyOf t)), (2, ii levels), (6, .own 0 6 0 0), (7, ii (b0 bs))]) (Hv := [(6, .box [ii 0, ii 0, ii 0, .i (.v (.slice none 0 0))])]) (n := 183) ?_ ⟨rfl, rfl, rfl, rfl, rfl, trivial⟩ rfl ⟨rfl, trivial⟩ rfl rfl
  clear hn hO2 hO1
  generalize b0 bs = b at *
  cases t with
  | true => cases ht
  | false =>
    refine g_run Tk Tryd.func74 ?_
    refine g_go Tk Tryd.func74 ?_
    first | refine g_cnd Tk Tryd.func74 rfl (fun h => absurd h (by decide)) (fun _ => ?_) | refine g_know Tk Tryd.func74 rfl (fun h => absurd h (by decide)) (fun _ => ?_) | refine s_know Tk (fun h => absurd h (by decide)) (fun _ => ?_)
    first | refine g_cnd Tk Tryd.func74 rfl (fun h1 => ?_) (fun h1 => ?_) | refine g_know Tk Tryd.func74 rfl (fun h1 => ?_) (fun h1 => ?_) | refine s_know Tk (fun h1 => ?_) (fun h1 => ?_)
    · have h1 : lv = 0 := hlev.1 (of_decide_eq_true h1)
      have hR := htruth rfl h1
      subst hR
      first | refine g_need Tk Tryd.func74 (by decide) ?_ | refine s_need Tk (by decide) ?_
      first | refine g_call Tk Tryd.func74 (truth81 _ _) rfl rfl rfl rfl rfl ?_ | refine s_callq Tk (fun _ => truth81 _ _) rfl rfl rfl ?_
      refine g_rwk (wk_S (S' := _ :: setAt O d nm _) (objAt_cons hfin0)) ?_
      refine g_ret Tk (r := _) rfl rfl rfl trivial rfl rfl ?_
      rw [hby.m2]
      rfl
    have h1 : lv ≠ 0 := fun e => of_decide_eq_false h1 (hlev.2 e)
    obtain ⟨lv', elv⟩ : ∃ lv', lv = lv' + 1 := ⟨lv - 1, by omega⟩
    have hF := hF lv' elv rfl
    have hp := hpow lv' elv
    have child := child lv' elv
    have gok := gok lv'
    have hlev2 : levels ≤ 2 ↔ lv' = 0 := by omega
    clear hleaf hT htruth hpow hlev
    apply join_p (P := lv' = 0 ∨ k + 1 > 12 ∨ b % 8 < 4) (s6 := { σ := [(0, .own (d + 1) nm 0 0), (2, ii levels), (6, .own 0 6 0 0), (7, ii b)], S := [(6, .box [ii 0, ii 0, ii 0, .i (.v (.slice none 0 0))])] :: O2, n := 183 })
    · intro J
      first | refine g_cnd Tk Tryd.func74 rfl (fun h2 => ?_) (fun h2 => ?_) | refine g_know Tk Tryd.func74 rfl (fun h2 => ?_) (fun h2 => ?_) | refine s_know Tk (fun h2 => ?_) (fun h2 => ?_)
      · repeat (first | refine g_cnd Tk Tryd.func74 rfl (fun _ => ?_) (fun h => absurd h (by decide)) | refine g_cnd Tk Tryd.func74 rfl (fun h => absurd h (by decide)) (fun _ => ?_) | refine g_know Tk Tryd.func74 rfl (fun _ => ?_) (fun h => absurd h (by decide)) | refine g_know Tk Tryd.func74 rfl (fun h => absurd h (by decide)) (fun _ => ?_) | refine s_know Tk (fun _ => ?_) (fun h => absurd h (by decide)) | refine s_know Tk (fun h => absurd h (by decide)) (fun _ => ?_))
        refine g_stop ?_
        exact rch_fit (J (.inl (hlev2.1 (of_decide_eq_true h2)))) ⟨rfl, rfl, rfl, rfl, trivial⟩ rfl rfl
      have h2 : lv' ≠ 0 := fun e => of_decide_eq_false h2 (hlev2.2 e)
      first | refine g_obj Tk Tryd.func74 (hO3 _) ?_ | refine s_obj Tk (hO3 _) ?_
      first | refine g_cnd Tk Tryd.func74 rfl (fun h3 => ?_) (fun h3 => ?_) | refine g_know Tk Tryd.func74 rfl (fun h3 => ?_) (fun h3 => ?_) | refine s_know Tk (fun h3 => ?_) (fun h3 => ?_)
      · repeat (first | refine g_cnd Tk Tryd.func74 rfl (fun _ => ?_) (fun h => absurd h (by decide)) | refine g_cnd Tk Tryd.func74 rfl (fun h => absurd h (by decide)) (fun _ => ?_) | refine g_know Tk Tryd.func74 rfl (fun _ => ?_) (fun h => absurd h (by decide)) | refine g_know Tk Tryd.func74 rfl (fun h => absurd h (by decide)) (fun _ => ?_) | refine s_know Tk (fun _ => ?_) (fun h => absurd h (by decide)) | refine s_know Tk (fun h => absurd h (by decide)) (fun _ => ?_))
        refine g_stop ?_
        exact rch_fit (J (.inr (.inl (by have := of_decide_eq_true h3; omega)))) ⟨rfl, rfl, rfl, rfl, trivial⟩ rfl rfl
      have h3 : ¬ k + 1 > 12 := by have := of_decide_eq_false h3; omega
      first | refine g_need Tk Tryd.func74 (by decide) ?_ | refine s_need Tk (by decide) ?_
      first | refine g_cnd Tk Tryd.func74 rfl (fun h4 => ?_) (fun h4 => ?_) | refine g_know Tk Tryd.func74 rfl (fun h4 => ?_) (fun h4 => ?_) | refine s_know Tk (fun h4 => ?_) (fun h4 => ?_)
      · refine g_stop ?_
        exact rch_fit (J (.inr (.inr (by have := of_decide_eq_true h4; rw [hby.m8] at this; exact this)))) ⟨rfl, rfl, rfl, rfl, trivial⟩ rfl rfl
      have h4 : ¬ b % 8 < 4 := by have := of_decide_eq_false h4; rw [hby.m8] at this; exact this
      rw [if_neg (by omega)] at hF
      clear J
      first | refine g_need Tk Tryd.func74 (by decide) ?_ | refine s_need Tk (by decide) ?_
      first | refine g_cnd Tk Tryd.func74 rfl (fun h5 => ?_) (fun h5 => ?_) | refine g_know Tk Tryd.func74 rfl (fun h5 => ?_) (fun h5 => ?_) | refine s_know Tk (fun h5 => ?_) (fun h5 => ?_)
      · have h5 := beqT h5
        rw [hby.m8] at h5
        rw [if_pos h5] at hF
        subst hF
        have c1 := fun O ho => child false bs.tail (k + 1) hbt hbtl (by omega) O (d + 1) nm ho
        refine g_call Tk Tryd.func74 (c1 _ (by exact up_obj ho2)) rfl rfl rfl (shape_cons (shape_set ho2 rfl)) rfl ?_
        refine g_rwk (wk_S (S' := _ :: setAt O d nm _) (objAt_cons (hfin _))) ?_
        refine g_ret Tk (r := _) rfl rfl rfl trivial rfl rfl ?_
        exact (exA1 _ _).symm
      have h5 : b % 8 ≠ 4 := by have := beqF h5; rw [hby.m8] at this; exact this
      rw [if_neg h5] at hF
      first | refine g_need Tk Tryd.func74 (by decide) ?_ | refine s_need Tk (by decide) ?_
      first | refine g_cnd Tk Tryd.func74 rfl (fun h6 => ?_) (fun h6 => ?_) | refine g_know Tk Tryd.func74 rfl (fun h6 => ?_) (fun h6 => ?_) | refine s_know Tk (fun h6 => ?_) (fun h6 => ?_)
      · have h6 := beqT h6
        rw [hby.m8] at h6
        rw [if_pos h6] at hF
        have g1 := gok false bs.tail (k + 1) hbt
        have c1 := fun O ho => child false bs.tail (k + 1) hbt hbtl (by omega) O (d + 1) nm ho
        generalize growR vars lv' false bs.tail (k + 1) = A at *
        have gk1 := g1.k
        have gl1 := Nat.le_trans g1.l hbtl
        have g2 := gok false A.2.1 A.2.2 g1.b
        have c2 := fun O ho => child false A.2.1 A.2.2 g1.b gl1 (by omega) O (d + 1) nm ho
        generalize growR vars lv' false A.2.1 A.2.2 = B at *
        have gk2 := g2.k
        have gl2 := Nat.le_trans g2.l gl1
        have g3 := gok false B.2.1 B.2.2 g2.b
        have c3 := fun O ho => child false B.2.1 B.2.2 g2.b gl2 (by omega) O (d + 1) nm ho
        generalize growR vars lv' false B.2.1 B.2.2 = C at *
        subst hF
        refine g_call Tk Tryd.func74 (c1 _ (by exact up_obj ho2)) rfl rfl rfl (shape_cons (shape_set ho2 rfl)) rfl ?_
        refine g_call Tk Tryd.func74 (c2 _ (by exact up_obj (objAt_set_same ho2))) rfl rfl rfl (shape_cons (shape_set (objAt_set_same ho2) rfl)) rfl ?_
        refine g_call Tk Tryd.func74 (c3 _ (by exact up_obj (objAt_set_same (objAt_set_same ho2)))) rfl rfl rfl (shape_cons (shape_set (objAt_set_same (objAt_set_same ho2)) rfl)) rfl ?_
        refine g_rwk (wk_S (S' := _ :: setAt O d nm _) (objAt_cons fun d' n' => (hfin _ d' n').trans (os3 _ _ _ d' n'))) ?_
        refine g_ret Tk (r := _) rfl rfl rfl trivial rfl rfl ?_
        exact (exA3 _ _ _ _).symm
      have h6 : b % 8 ≠ 5 := by have := beqF h6; rw [hby.m8] at this; exact this
      rw [if_neg h6] at hF
      first | refine g_need Tk Tryd.func74 (by decide) ?_ | refine s_need Tk (by decide) ?_
      first | refine g_need Tk Tryd.func74 (by decide) ?_ | refine s_need Tk (by decide) ?_
      have g1 := gok false bs.tail (k + 1) hbt
      have c1 := fun O ho => child false bs.tail (k + 1) hbt hbtl (by omega) O (d + 1) nm ho
      generalize growR vars lv' false bs.tail (k + 1) = A at *
      have gk1 := g1.k
      have gl1 := Nat.le_trans g1.l hbtl
      have c2 := fun O ho => child false A.2.1 A.2.2 g1.b gl1 (by omega) O (d + 1) nm ho
      generalize growR vars lv' false A.2.1 A.2.2 = B at *
      subst hF
      refine g_call Tk Tryd.func74 (c1 _ (by exact up_obj ho2)) rfl rfl rfl (shape_cons (shape_set ho2 rfl)) rfl ?_
      refine g_call Tk Tryd.func74 (c2 _ (by exact up_obj (objAt_set_same ho2))) rfl rfl rfl (shape_cons (shape_set (objAt_set_same ho2) rfl)) rfl ?_
      refine g_rwk (wk_S (S' := _ :: setAt O d nm _) (objAt_cons fun d' n' => (hfin _ d' n').trans (os2 _ _ d' n'))) ?_
      refine g_ret Tk (r := _) rfl rfl rfl trivial rfl rfl ?_
      rw [← hby.q8a (by decide) (by decide) (by decide) (by decide)]
      exact (exA2 _ _ _).symm
    · intro hP
      rw [if_pos hP] at hF
      have g1 := gok true bs.tail (k + 1) hbt
      have c1 := fun O ho => child true bs.tail (k + 1) hbt hbtl (by omega) O (d + 1) nm ho
      generalize growR vars lv' true bs.tail (k + 1) = A at *
      have gk1 := g1.k
      have gl1 := Nat.le_trans g1.l hbtl
      have c2 := fun O ho => child true A.2.1 A.2.2 g1.b gl1 (by omega) O (d + 1) nm ho
      generalize growR vars lv' true A.2.1 A.2.2 = B at *
      subst hF
      refine g_run Tk Tryd.func74 ?_
      refine g_go Tk Tryd.func74 ?_
      first | refine g_need Tk Tryd.func74 (by decide) ?_ | refine s_need Tk (by decide) ?_
      first | refine g_need Tk Tryd.func74 (by decide) ?_ | refine s_need Tk (by decide) ?_
      refine g_call Tk Tryd.func74 (c1 _ (by exact up_obj ho2)) rfl rfl rfl (shape_cons (shape_set ho2 rfl)) rfl ?_
      refine g_call Tk Tryd.func74 (c2 _ (by exact up_obj (objAt_set_same ho2))) rfl rfl rfl (shape_cons (shape_set (objAt_set_same ho2) rfl)) rfl ?_
      refine g_rwk (wk_S (S' := _ :: setAt O d nm _) (objAt_cons fun d' n' => (hfin _ d' n').trans (os2 _ _ d' n'))) ?_
      refine g_ret Tk (r := _) rfl rfl rfl trivial rfl rfl ?_
      rw [← hby.q8a (by decide) (by decide) (by decide) (by decide)]
      exact (exA2 _ _ _).symm
theorem grow64 (vars : Int) (hv : 0 ≤ vars) : ∀ lv, lv ≤ 10 → ∀ t, GrowS vars lv t
  | 0, h, true => grow_stepT vars hv 0 h fun lv' e => by omega
  | 0, h, false => grow_stepF vars hv 0 h fun lv' e => by omega
  | lv + 1, h, true => grow_stepT vars hv (lv + 1) h fun lv' e t => by
    obtain rfl : lv = lv' := by omega
    exact grow64 vars hv lv (by omega) t
  | lv + 1, h, false => grow_stepF vars hv (lv + 1) h fun lv' e t => by
    obtain rfl : lv = lv' := by omega
    exact grow64 vars hv lv (by omega) t
/-- Grow: an expression of a type over some variables that bytes describe. -/
def growE (vars : Int) (t : Bool) (bs : List Int) : Ex := (growR vars 4 t (bs.take 60) 0).1
theorem grow46 (O : List Heap) (bs : List Int) (vars : Int) (t : Bool) (hv : 0 ≤ vars) (hb : byteOk bs) (hl : bs.length ≤ max63) :
    ASpec Tryd.prog 22 [byts bs, ii vars, ii (tyOf t)] O (exA (growE vars t bs)) [] O := by
  have hb' : byteOk (bs.take 60) := fun b h => hb b (List.mem_of_mem_take h)
  have hl' : (bs.take 60).length ≤ max63 := Nat.le_trans (List.length_take_le _ _) (by decide)
  have hg := fun O d nm ho => grow64 vars hv 4 (by decide) t (bs.take 60) 0 5 rfl hb' hl' (by decide) O d nm ho
  unfold growE
  generalize growR vars 4 t (bs.take 60) 0 = R at *
  have hmin : (if (60 : Int) < bs.length then (60 : Int) else bs.length).toNat = (bs.take 60).length := by
    simp only [List.length_take]
    split <;> omega
  have htk : (bs.map u8I).take (if (60 : Int) < bs.length then (60 : Int) else bs.length).toNat = (bs.take 60).map u8I := by
    rw [hmin, List.map_take, List.take_eq_take_iff]
    simp
  have hobj : some (Ob.box [.i (.sl 1 (if (60 : Int) < bs.length then (60 : Int) else bs.length).toNat ((bs.map u8I).take (if (60 : Int) < bs.length then (60 : Int) else bs.length).toNat)), ii vars, ii 0]) = some (growOb (bs.take 60) vars ((0 : Nat) : Int)) := by
    rw [htk, hmin]
    rfl
  refine aspec_intro Tk Tryd.func22 rfl Tryd.call22 Tryd.ntmps22 (Nat.le_of_ble_eq_true rfl) fun E => ?_
  refine g_run Tk Tryd.func22 ?_
  first | refine g_need Tk Tryd.func22 (by split <;> omega) ?_ | refine s_need Tk (by split <;> omega) ?_
  refine g_call Tk Tryd.func22 (hg _ 0 15 (by exact hobj)) rfl rfl rfl (by exact shape_over rfl rfl) rfl ?_
  refine g_ret Tk (r := _) rfl rfl rfl trivial rfl rfl ?_
  rfl
end Go.AI


namespace Go.AI
open Go.Proofs
set_option maxRecDepth 20000
abbrev r8I (p : Int × Int) : List I := [.v (.int .i8 p.1), .v (.int .i8 p.2)]
abbrev r8s (l : List (Int × Int)) : D := .i (.sl 2 l.length (l.map r8I))
abbrev ovrs (l : List Vr) : Ob := .arr 61 4 l.length (l.map vrI) true
def nameR (i : Nat) : ByteArray := ⟨#[120]⟩ ++ bytesOf [IntKind.u8.wrap (48 + IntKind.u8.wrap (i : Int))]
/-- A variable that two small numbers describe. -/
def rngV (i : Nat) (p : Int × Int) : Vr := ⟨nameR i, p.1.tmod 5, p.1.tmod 5 + p.2 % 256 % 4, p.1.tmod 5 + p.2 % 256 / 4 % (p.2 % 256 % 4 + 1)⟩
def rngsR (l : List (Int × Int)) : List Vr := (List.range (min l.length 3)).map fun i => rngV i (l.getD i (0, 0))
def pairOk (p : Int × Int) : Prop := -128 ≤ p.1 ∧ p.1 ≤ 127 ∧ -128 ≤ p.2 ∧ p.2 ≤ 127
theorem ovrs_app (l : List Vr) (v : Vr) : Ob.arr 61 4 (l.length + 1) (l.map vrI ++ [vrI v]) true = ovrs (l ++ [v]) := by simp
theorem nameR_size (i : Nat) : (nameR i).size = 2 := by
  unfold nameR bytesOf
  simp only [List.foldl_cons, List.foldl_nil]
  rw [ByteArray.size_append, ByteArray.size_push]
  rfl
theorem wu8 (n : Int) : IntKind.u8.wrap n = n % 256 := by
  unfold IntKind.wrap
  simp [IntKind.bits, IntKind.signed]
theorem ranges45 (O : List Heap) (l : List (Int × Int)) (hl : l.length ≤ max63) (hp : ∀ p ∈ l, pairOk p) : ASpec Tryd.prog 16 [r8s l] O (vrs (rngsR l)) [] O := by
  refine aspec_stop [7] Tk Tryd.func16 rfl Tryd.call16 Tryd.ntmps16 (Nat.le_of_ble_eq_true rfl) fun E => ?_
  refine g_run Tk Tryd.func16 ?_
  refine g_loop ?_
  refine rch_wk (wk_nil 3 58 61 4 rfl rfl rfl) ?_
  refine rch_loop2 (fun i : Nat => [(0, r8s l), (3, .osl 0 58), (4, ii i)]) (fun i => [(58, ovrs ((List.range i).map fun i => rngV i (l.getD i (0, 0))))]) (fun _ => O) 60
    (fun i => i ≤ min l.length 3) (fun i => min l.length 3 - i) 0 (Nat.zero_le _) ⟨rfl, rfl, rfl, trivial⟩ rfl ⟨rfl, trivial⟩ rfl rfl ?_
  rintro i hi ih
  have hend : i = min l.length 3 → vrs (rngsR l) = vrs ((List.range i).map fun i => rngV i (l.getD i (0, 0))) := fun e => by rw [e]; rfl
  have hsucc : (List.range (i + 1)).map (fun i => rngV i (l.getD i (0, 0))) = (List.range i).map (fun i => rngV i (l.getD i (0, 0))) ++ [rngV i (l.getD i (0, 0))] := by rw [List.range_succ, List.map_append]; rfl
  have hlen : ((List.range i).map fun i => rngV i (l.getD i (0, 0))).length = i := by simp
  generalize rngsR l = R at *
  generalize (List.range i).map (fun i => rngV i (l.getD i (0, 0))) = acc at *
  refine g_run Tk Tryd.func16 ?_
  first | refine g_cnd Tk Tryd.func16 rfl (fun h1 => ?_) (fun h1 => ?_) | refine g_know Tk Tryd.func16 rfl (fun h1 => ?_) (fun h1 => ?_) | refine s_know Tk (fun h1 => ?_) (fun h1 => ?_)
  · have h1 : i < l.length := by have := of_decide_eq_true h1; omega
    first | refine g_cnd Tk Tryd.func16 rfl (fun h2 => ?_) (fun h2 => ?_) | refine g_know Tk Tryd.func16 rfl (fun h2 => ?_) (fun h2 => ?_) | refine s_know Tk (fun h2 => ?_) (fun h2 => ?_)
    · have h2 : i < 3 := by have := of_decide_eq_true h2; omega
      have hgd : l.getD i (0, 0) = l[i] := by simp [h1]
      have hm := List.getElem_mem h1
      have hg : (l.map r8I)[(i : Int).toNat]? = some (r8I l[i]) := get_mapZ h1
      rw [hgd] at hsucc
      generalize l[i] = p at *
      obtain ⟨a, b⟩ := p
      obtain ⟨ha0, ha1, hb0, hb1⟩ := hp _ hm
      simp only at ha0 ha1 hb0 hb1
      have hlo : IntKind.i64.wrap (a.tmod 5) = a.tmod 5 := by
        have := Int.tmod_lt_of_pos a (show (0 : Int) < 5 by decide)
        have := Int.lt_tmod_of_pos a (show (0 : Int) < 5 by decide)
        rw [w64 (by omega) (by omega)]
      have hwd : IntKind.i64.wrap ((IntKind.u8.wrap b).tmod 4) = b % 256 % 4 := by
        rw [wu8, Int.tmod_eq_emod_of_nonneg (by omega), w64 (by omega) (by omega)]
      first | refine g_need Tk Tryd.func16 (by exact ⟨by omega, by show (i : Int) < (l.length : Int); omega⟩) ?_ | refine s_need Tk (by exact ⟨by omega, by show (i : Int) < (l.length : Int); omega⟩) ?_
      first | refine g_need Tk Tryd.func16 (by decide) ?_ | refine s_need Tk (by decide) ?_
      first | refine g_elem Tk Tryd.func16 (hg) ?_ | refine s_elem Tk (hg) ?_
      first | refine g_need Tk Tryd.func16 (by decide) ?_ | refine s_need Tk (by decide) ?_
      first | refine g_need Tk Tryd.func16 (by exact ⟨by omega, by show (i : Int) < (l.length : Int); omega⟩) ?_ | refine s_need Tk (by exact ⟨by omega, by show (i : Int) < (l.length : Int); omega⟩) ?_
      first | refine g_need Tk Tryd.func16 (by decide) ?_ | refine s_need Tk (by decide) ?_
      first | refine g_elem Tk Tryd.func16 (hg) ?_ | refine s_elem Tk (hg) ?_
      first | refine g_need Tk Tryd.func16 (by decide) ?_ | refine s_need Tk (by decide) ?_
      refine g_stop ?_
      refine rch_meet (l := [(0, r8s l), (3, .osl 0 58), (4, ii i), (5, ii (a.tmod 5)), (6, ii (b % 256 % 4))]) (Hv := [(58, ovrs acc)]) (n := 60) ?_ ⟨rfl, rfl, rfl, congrArg ii hlo, congrArg ii hwd, trivial⟩ rfl ⟨rfl, trivial⟩ rfl rfl
      refine g_run Tk Tryd.func16 ?_
      refine g_go Tk Tryd.func16 ?_
      refine g_drawn Tk Tryd.func16 mixedT rfl ?_
      have hsz := nameR_size i
      unfold nameR at hsz
      rw [ByteArray.size_append] at hsz
      have hw1 : IntKind.i64.wrap (b % 256 % 4 + 1) = b % 256 % 4 + 1 := w64 (by omega) (by omega)
      have hq : IntKind.i64.wrap (IntKind.u8.wrap ((IntKind.u8.wrap b).tdiv 4)) = b % 256 / 4 := by
        rw [wu8, wu8, Int.tdiv_eq_ediv_of_nonneg (by omega), w64 (by omega) (by omega)]
        omega
      have hmod := Int.emod_nonneg (b % 256 / 4) (show b % 256 % 4 + 1 ≠ 0 by omega)
      have hmod2 := Int.emod_lt_of_pos (b % 256 / 4) (show 0 < b % 256 % 4 + 1 by omega)
      have hl5 := Int.tmod_lt_of_pos a (show (0 : Int) < 5 by decide)
      have hg5 := Int.lt_tmod_of_pos a (show (0 : Int) < 5 by decide)
      first | refine g_need Tk Tryd.func16 (by omega) ?_ | refine s_need Tk (by omega) ?_
      first | refine g_need Tk Tryd.func16 (by exact ⟨by omega, by show (i : Int) < (l.length : Int); omega⟩) ?_ | refine s_need Tk (by exact ⟨by omega, by show (i : Int) < (l.length : Int); omega⟩) ?_
      first | refine g_need Tk Tryd.func16 (by decide) ?_ | refine s_need Tk (by decide) ?_
      first | refine g_elem Tk Tryd.func16 (hg) ?_ | refine s_elem Tk (hg) ?_
      first | refine g_need Tk Tryd.func16 (by decide) ?_ | refine s_need Tk (by decide) ?_
      first | refine g_need Tk Tryd.func16 (by rw [hw1]; omega) ?_ | refine s_need Tk (by rw [hw1]; omega) ?_
      have hin : (b % 256 / 4).tmod (b % 256 % 4 + 1) = (b % 256 / 4) % (b % 256 % 4 + 1) := Int.tmod_eq_emod_of_nonneg (by omega)
      refine e_tail Tk Tryd.func16 ([26, 27]) (by kernel_rfl) (by kernel_rfl) ?_
      first | refine g_need Tk Tryd.func16 (by exact ⟨by show (acc.length + 1) * 40 ≤ 140737488355328; omega, by show acc.length + 1 ≤ 9223372036854775807; omega⟩) ?_ | refine s_need Tk (by exact ⟨by show (acc.length + 1) * 40 ≤ 140737488355328; omega, by show acc.length + 1 ≤ 9223372036854775807; omega⟩) ?_
      refine g_loop ?_
      refine ih (i + 1) _ _ (by omega) (by omega) ⟨rfl, rfl, congrArg ii (wsucc h1 hl), trivial⟩ rfl ⟨?_, trivial⟩ rfl rfl
      rw [hsucc, ← ovrs_app]
      show some (Ob.arr 61 4 (acc.length + 1) (acc.map vrI ++ [[.v (.string (⟨#[120]⟩ ++ bytesOf [IntKind.u8.wrap (48 + IntKind.u8.wrap (i : Int))])), vi (a.tmod 5), vi _, vi _]]) true) = _
      rw [hw1, hq, hin, w64 (by omega) (by omega), w64 (by omega) (by omega)]
      rfl
    · have h2 : ¬ i < 3 := by have := of_decide_eq_false h2; omega
      have := hend (by omega)
      refine g_rwk (wk_freeze 58 rfl rfl) ?_
      refine g_ret Tk (r := vrs acc) rfl rfl rfl trivial rfl rfl ?_
      exact this.symm
  · have h1 : ¬ i < l.length := by have := of_decide_eq_false h1; omega
    have := hend (by omega)
    repeat (first | refine g_cnd Tk Tryd.func16 rfl (fun _ => ?_) (fun h => absurd h (by decide)) | refine g_cnd Tk Tryd.func16 rfl (fun h => absurd h (by decide)) (fun _ => ?_) | refine g_know Tk Tryd.func16 rfl (fun _ => ?_) (fun h => absurd h (by decide)) | refine g_know Tk Tryd.func16 rfl (fun h => absurd h (by decide)) (fun _ => ?_) | refine s_know Tk (fun _ => ?_) (fun h => absurd h (by decide)) | refine s_know Tk (fun h => absurd h (by decide)) (fun _ => ?_))
    refine g_rwk (wk_freeze 58 rfl rfl) ?_
    refine g_ret Tk (r := vrs acc) rfl rfl rfl trivial rfl rfl ?_
    exact this.symm
end Go.AI


namespace Go.AI
open Go.Proofs
set_option maxRecDepth 20000
/-- A line of a sketch, and a sketch. -/
structure Lin where
  a0 : Int
  a1 : Int
  a2 : Int
  g : List Int
  u : List Int
abbrev linI (x : Lin) : List I := [.v (.int .u8 x.a0), .v (.int .u8 x.a1), .v (.int .u8 x.a2), .sl 1 x.g.length (x.g.map u8I), .sl 1 x.u.length (x.u.map u8I)]
structure Sk where
  locs : Int
  marks : Int
  rngs : List (Int × Int)
  lines : List Lin
abbrev linsD (l : List Lin) : D := .i (.sl 5 l.length (l.map linI))
abbrev u8D (b : Int) : D := .i (.v (.int .u8 b))
abbrev skC (k : Sk) : List D := [u8D k.locs, u8D k.marks, r8s k.rngs, linsD k.lines]
abbrev skD (k : Sk) : D := .agg (skC k)
structure linOk (x : Lin) : Prop where
  a0 : 0 ≤ x.a0 ∧ x.a0 ≤ 255
  a1 : 0 ≤ x.a1 ∧ x.a1 ≤ 255
  a2 : 0 ≤ x.a2 ∧ x.a2 ≤ 255
  g : byteOk x.g
  gl : x.g.length ≤ max63
  u : byteOk x.u
  ul : x.u.length ≤ max63
structure skOk (k : Sk) : Prop where
  locs : 0 ≤ k.locs ∧ k.locs ≤ 255
  marks : 0 ≤ k.marks ∧ k.marks ≤ 255
  rl : k.rngs.length ≤ max63
  r : ∀ p ∈ k.rngs, pairOk p
  ll : k.lines.length ≤ max63
  l : ∀ x ∈ k.lines, linOk x
def mrk (marks : Int) (i : Nat) : Bool := bits .and .u8 (marks / 2 ^ (i : Int).toNat) 1 == 1
def mrks (marks : Int) (n : Nat) : List Int := ((List.range n).filter (mrk marks)).map fun (i : Nat) => (i : Int)
/-- Comes a move behind another one? -/
def gtMv (x y : Mv) : Bool := decide (x.frm > y.frm ∨ (x.frm = y.frm ∧ x.ev > y.ev))
def posR (l : List Mv) (y : Mv) : Nat → Nat
  | 0 => 0
  | n + 1 => match l[n]? with
    | some x => bif gtMv x y then posR l y n else n + 1
    | none => 0
def insMv (l : List Mv) (y : Mv) : List Mv := l.take (posR l y l.length) ++ y :: l.drop (posR l y l.length)
def guardE (n : Int) (g : List Int) : Ex := if g.length > 0 then growE n false (g.take 12) else trueE
def updsE (n : Int) (u : List Int) : List Upd := if u.length > 0 ∧ n > 0 then [⟨b0 u % n, growE n true ((u.take 12).drop 1)⟩] else []
def mvOf (locs n : Int) (x : Lin) : Mv := ⟨x.a0 % locs, x.a1 % 3, x.a2 % locs, guardE n x.g, updsE n x.u⟩
def locsR (k : Sk) : Nat := 1 + (k.locs % 4).toNat
def mvsL (locs n : Int) (l : List Lin) (i : Nat) : List Mv := (l.take i).foldl (fun acc x => insMv acc (mvOf locs n x)) []
/-- Make. -/
def makeR (k : Sk) : Ext := ⟨[0, 1, 2], locsR k, 0, mrks k.marks (locsR k), rngsR (k.rngs.take 2), mvsL (locsR k) (rngsR (k.rngs.take 2)).length k.lines (min k.lines.length 8)⟩
theorem posR_le (l : List Mv) (y : Mv) : ∀ n, posR l y n ≤ n
  | 0 => Nat.le_refl _
  | n + 1 => by
    simp only [posR]
    split
    · rename_i x _
      cases gtMv x y with
      | true => exact Nat.le_succ_of_le (posR_le l y n)
      | false => exact Nat.le_refl _
    · omega
theorem insMv_len (l : List Mv) (y : Mv) : (insMv l y).length = l.length + 1 := by
  have := posR_le l y l.length
  simp only [insMv, List.length_append, List.length_take, List.length_cons, List.length_drop]
  omega
theorem mvsL_succ {locs n : Int} {l : List Lin} {i : Nat} (h : i < l.length) : mvsL locs n l (i + 1) = insMv (mvsL locs n l i) (mvOf locs n l[i]) := by
  unfold mvsL
  rw [List.take_add_one, List.getElem?_eq_getElem h, List.foldl_append]
  rfl
theorem mvsL_len {locs n : Int} {l : List Lin} : ∀ {i : Nat}, i ≤ l.length → (mvsL locs n l i).length = i
  | 0, _ => by simp [mvsL]
  | i + 1, h => by rw [mvsL_succ h, insMv_len, mvsL_len (by omega)]
theorem rngsR_len (l : List (Int × Int)) : (rngsR l).length = min l.length 3 := by simp [rngsR]
theorem mrks_succ (marks : Int) (i : Nat) : mrks marks (i + 1) = mrks marks i ++ (bif mrk marks i then [(i : Int)] else []) := by
  unfold mrks
  rw [List.range_succ, List.filter_append, List.map_append]
  congr 1
  cases h : mrk marks i <;> simp [h]
theorem mrks_len (marks : Int) (n : Nat) : (mrks marks n).length ≤ n := by
  unfold mrks
  rw [List.length_map]
  exact Nat.le_trans (List.length_filter_le _ _) (by simp)
theorem min_nat (n m : Nat) : (if (n : Int) < (m : Int) then (n : Int) else (m : Int)).toNat = min m n := by split <;> omega
theorem byts_min (l : List Int) (n : Nat) {N : Int} (hN : N = (n : Int)) : D.i (.sl 1 (if N < (l.length : Int) then N else (l.length : Int)).toNat ((l.map u8I).take (if N < (l.length : Int) then N else (l.length : Int)).toNat)) = byts (l.take n) := by
  subst hN
  rw [min_nat, ← List.map_take]
  have : l.take (min l.length n) = l.take n := by rw [List.take_eq_take_iff]; omega
  rw [this, show min l.length n = (l.take n).length by simp only [List.length_take]; omega]
theorem byts_min1 (l : List Int) (n : Nat) {N A : Int} (hN : N = (n : Int)) (hA : A = 1) : D.i (.sl 1 ((if N < (l.length : Int) then N else (l.length : Int)).toNat - A.toNat) (((l.map u8I).take (if N < (l.length : Int) then N else (l.length : Int)).toNat).drop A.toNat)) = byts ((l.take n).drop 1) := by
  subst hN hA
  have := byts_min l n (N := (n : Int)) rfl
  simp only [D.i.injEq, I.sl.injEq, true_and] at this
  rw [this.2, this.1, ← List.map_drop]
  congr 2
  simp
set_option maxHeartbeats 4000000 in
theorem make16 (O : List Heap) (k : Sk) (hk : skOk k) : ASpec Tryd.prog 49 [skD k] O (extD (makeR k)) [] O := by
  obtain ⟨kl, km, kr, kx⟩ := k
  obtain ⟨hloc, hmk, hrl, hr, hll, hx⟩ := hk
  simp only at hloc hmk hrl hr hll hx
  show ASpec Tryd.prog 49 [.agg [u8D kl, u8D km, r8s kr, linsD kx]] O (extD (makeR ⟨kl, km, kr, kx⟩)) [] O
  have hrg := fun O => ranges45 O (kr.take 2) (Nat.le_trans (List.length_take_le _ _) (by decide)) (fun p hp => hr p (List.mem_of_mem_take hp))
  have hvl : (rngsR (kr.take 2)).length ≤ 2 := by
    rw [rngsR_len, List.length_take]
    omega
  have hlo : IntKind.i64.wrap (1 + IntKind.i64.wrap (kl.tmod 4)) = ((1 + (kl % 4).toNat : Nat) : Int) := by
    rw [Int.tmod_eq_emod_of_nonneg hloc.1, w64 (n := kl % 4) (by omega) (by omega), w64 (by omega) (by omega)]
    omega
  generalize hR : makeR ⟨kl, km, kr, kx⟩ = R
  unfold makeR at hR
  simp only [locsR] at hR
  have hL1 : 1 ≤ 1 + (kl % 4).toNat ∧ 1 + (kl % 4).toNat ≤ 4 := by omega
  generalize 1 + (kl % 4).toNat = L at *
  have hmin : (if (2 : Int) < kr.length then (2 : Int) else kr.length).toNat = (kr.take 2).length := by
    simp only [List.length_take]
    split <;> omega
  have htk : (kr.map r8I).take (if (2 : Int) < kr.length then (2 : Int) else kr.length).toNat = (kr.take 2).map r8I := by
    rw [hmin, List.map_take, List.take_eq_take_iff]
    simp
  have hobj : D.i (.sl 2 (if (2 : Int) < kr.length then (2 : Int) else kr.length).toNat ((kr.map r8I).take (if (2 : Int) < kr.length then (2 : Int) else kr.length).toNat)) = r8s (kr.take 2) := by
    rw [htk, hmin]
  rw [← hobj] at hrg
  clear hobj hmin htk
  generalize rngsR (kr.take 2) = V at *
  refine aspec_stop [13, 15, 17, 20] Tk Tryd.func49 rfl Tryd.call49 Tryd.ntmps49 (Nat.le_of_ble_eq_true rfl) fun E => ?_
  refine g_run Tk Tryd.func49 ?_
  refine g_drawn Tk Tryd.func49 mixedT rfl ?_
  first | refine g_need Tk Tryd.func49 (by decide) ?_ | refine s_need Tk (by decide) ?_
  first | refine g_need Tk Tryd.func49 (by split <;> omega) ?_ | refine s_need Tk (by split <;> omega) ?_
  first | refine g_call Tk Tryd.func49 (hrg _) rfl rfl rfl rfl rfl ?_ | refine s_callq Tk (fun _ => hrg _) rfl rfl rfl ?_
  refine s_put Tk rfl rfl rfl ?_
  refine e_done Tk Tryd.func49 (by kernel_rfl) ?_
  refine g_loop ?_
  refine rch_meet (l := [(1, .own 0 1 0 0), (2, .own 0 2 0 0), (3, .own 0 3 0 0), (4, ii 0)]) (Hv := [(1, .box ([u8D kl, u8D km, r8s kr, linsD kx])), (2, .box [.i (.v (.slice none 0 0)), ii 0, ii 0, .i (.v (.slice none 0 0)), .i (.v (.slice none 0 0)), .i (.v (.slice none 0 0))]), (3, .box [ints [0, 1, 2], ii L, ii 0, .i (.v (.slice none 0 0)), vrs V, .i (.v (.slice none 0 0))])]) (n := 182) ?_ ⟨rfl, rfl, rfl, rfl, trivial⟩ rfl ⟨rfl, rfl, by rw [← hlo]; rfl, trivial⟩ rfl rfl
  refine rch_wk (wk_nilbox2 3 41 3 1 (pre := [ints [0, 1, 2], ii L, ii 0]) (post := [vrs V, .i (.v (.slice none 0 0))]) rfl rfl rfl) ?_
  refine rch_loop2 (fun i : Nat => [(1, .own 0 1 0 0), (2, .own 0 2 0 0), (3, .own 0 3 0 0), (4, ii i)]) (fun i => [(1, .box ([u8D kl, u8D km, r8s kr, linsD kx])), (2, .box [.i (.v (.slice none 0 0)), ii 0, ii 0, .i (.v (.slice none 0 0)), .i (.v (.slice none 0 0)), .i (.v (.slice none 0 0))]), (3, .box [ints [0, 1, 2], ii L, ii 0, .osl 0 41, vrs V, .i (.v (.slice none 0 0))]), (41, oints (mrks km i))]) (fun _ => O) 182
    (fun i => i ≤ L) (fun i => L - i) 0 (Nat.zero_le _) ⟨rfl, rfl, rfl, rfl, trivial⟩ rfl ⟨rfl, rfl, rfl, rfl, trivial⟩ rfl rfl ?_
  intro i hi ih
  have hms := mrks_succ km i
  have hml := mrks_len km i
  have hend : i = L → mrks km i = mrks km L := fun e => by rw [e]
  generalize mrks km i = M at *
  refine g_run Tk Tryd.func49 ?_
  first | refine g_cnd Tk Tryd.func49 rfl (fun h1 => ?_) (fun h1 => ?_) | refine g_know Tk Tryd.func49 rfl (fun h1 => ?_) (fun h1 => ?_) | refine s_know Tk (fun h1 => ?_) (fun h1 => ?_)
  · have h1 : i < L := by have := of_decide_eq_true h1; omega
    generalize hq : mrk km i = q at *
    unfold mrk at hq
    first | refine g_need Tk Tryd.func49 (by exact ⟨by omega, by show (i : Int) ≤ 8; omega⟩) ?_ | refine s_need Tk (by exact ⟨by omega, by show (i : Int) ≤ 8; omega⟩) ?_
    first | refine g_cnd Tk Tryd.func49 rfl (fun h2 => ?_) (fun h2 => ?_) | refine g_know Tk Tryd.func49 rfl (fun h2 => ?_) (fun h2 => ?_) | refine s_know Tk (fun h2 => ?_) (fun h2 => ?_)
    · have h2 : q = true := by rw [← hq]; exact h2
      subst h2
      first | refine g_need Tk Tryd.func49 (by exact ⟨by show (M.length + 1) * 8 ≤ 140737488355328; omega, by show M.length + 1 ≤ 9223372036854775807; omega⟩) ?_ | refine s_need Tk (by exact ⟨by show (M.length + 1) * 8 ≤ 140737488355328; omega, by show M.length + 1 ≤ 9223372036854775807; omega⟩) ?_
      refine g_loop ?_
      refine ih (i + 1) _ _ (by omega) (by omega) ⟨rfl, rfl, rfl, congrArg ii (wsucc (n := 4) (by omega) (by decide)), trivial⟩ rfl ⟨rfl, rfl, rfl, ?_, trivial⟩ rfl rfl
      rw [hms]
      exact congrArg some (oints_app M i)
    · have h2 : q = false := by rw [← hq]; exact h2
      subst h2
      refine g_loop ?_
      refine ih (i + 1) _ _ (by omega) (by omega) ⟨rfl, rfl, rfl, congrArg ii (wsucc (n := 4) (by omega) (by decide)), trivial⟩ rfl ⟨rfl, rfl, rfl, ?_, trivial⟩ rfl rfl
      rw [hms]
      show some (oints M) = some (oints (M ++ []))
      rw [List.append_nil]
  · have h1 : i = L := by have := of_decide_eq_false h1; omega
    have hend := hend h1
    clear ih hms
    refine g_loop ?_
    refine rch_wk (wk_freeze 41 rfl rfl) ?_
    refine rch_wk (wk_nilbox2 3 179 122 8 (pre := [ints [0, 1, 2], ii L, ii 0, .osl 0 41, vrs V]) (post := []) rfl rfl rfl) ?_
    refine rch_wk (wk_freeze 179 rfl rfl) ?_
    refine rch_wk (wk_imm rfl) ?_
    rw [hend] at *
    clear hend hml h1 hi
    generalize mrks km L = M at *
    refine rch_loop2 (fun i : Nat => [(1, .own 0 1 0 0), (2, .own 0 2 0 0), (3, .own 0 3 0 0), (5, ii V.length), (6, ii i)]) (fun i => [(1, .box ([u8D kl, u8D km, r8s kr, linsD kx])), (2, .box [.i (.v (.slice none 0 0)), ii 0, ii 0, .i (.v (.slice none 0 0)), .i (.v (.slice none 0 0)), .i (.v (.slice none 0 0))]), (3, .box [ints [0, 1, 2], ii L, ii 0, ints M, vrs V, mvs (mvsL L V.length kx i)])]) (fun _ => O) 182
      (fun i => i ≤ min kx.length 8) (fun i => min kx.length 8 - i) 0 (Nat.zero_le _) ⟨rfl, rfl, rfl, rfl, rfl, trivial⟩ rfl ⟨rfl, rfl, rfl, trivial⟩ rfl rfl ?_
    intro i hi ih
    have hi : i ≤ min kx.length 8 := hi
    have hsucc := fun h => mvsL_succ (locs := L) (n := V.length) (l := kx) (i := i) h
    have hlen := mvsL_len (locs := L) (n := V.length) (l := kx) (i := i) (by omega)
    have hend : i = min kx.length 8 → R = ⟨[0, 1, 2], L, 0, M, V, mvsL L V.length kx i⟩ := fun e => by rw [← hR, ← e]
    clear hR
    generalize mvsL L V.length kx i = W at *
    refine g_run Tk Tryd.func49 ?_
    first | refine g_cnd Tk Tryd.func49 rfl (fun h1 => ?_) (fun h1 => ?_) | refine g_know Tk Tryd.func49 rfl (fun h1 => ?_) (fun h1 => ?_) | refine s_know Tk (fun h1 => ?_) (fun h1 => ?_)
    · have h1 : i < kx.length := by have := of_decide_eq_true h1; omega
      first | refine g_cnd Tk Tryd.func49 rfl (fun h2 => ?_) (fun h2 => ?_) | refine g_know Tk Tryd.func49 rfl (fun h2 => ?_) (fun h2 => ?_) | refine s_know Tk (fun h2 => ?_) (fun h2 => ?_)
      · have h2 : i < 8 := by have := of_decide_eq_true h2; omega
        have hsucc := hsucc h1
        have hg : (kx.map linI)[(i : Int).toNat]? = some (linI kx[i]) := get_mapZ h1
        have hxx := hx _ (List.getElem_mem h1)
        generalize kx[i] = x at *
        obtain ⟨hx0, hx1, hx2, hgb, hgl, hub, hul⟩ := hxx
        clear hend
        first | refine g_need Tk Tryd.func49 (by exact ⟨by omega, by show (i : Int) < (kx.length : Int); omega⟩) ?_ | refine s_need Tk (by exact ⟨by omega, by show (i : Int) < (kx.length : Int); omega⟩) ?_
        first | refine g_elem Tk Tryd.func49 (hg) ?_ | refine s_elem Tk (hg) ?_
        refine g_drawn Tk Tryd.func49 mixedT rfl ?_
        have e3 : ∀ n : Int, 0 ≤ n → n ≤ 255 → IntKind.i64.wrap n = n := fun n h h' => w64 (by omega) (by omega)
        first | refine g_need Tk Tryd.func49 (by decide) ?_ | refine s_need Tk (by decide) ?_
        first | refine g_need Tk Tryd.func49 (by exact (by omega : (L : Int) ≠ 0)) ?_ | refine s_need Tk (by exact (by omega : (L : Int) ≠ 0)) ?_
        first | refine g_need Tk Tryd.func49 (by decide) ?_ | refine s_need Tk (by decide) ?_
        first | refine g_need Tk Tryd.func49 (by decide) ?_ | refine s_need Tk (by decide) ?_
        first | refine g_need Tk Tryd.func49 (by decide) ?_ | refine s_need Tk (by decide) ?_
        first | refine g_need Tk Tryd.func49 (by exact (by omega : (L : Int) ≠ 0)) ?_ | refine s_need Tk (by exact (by omega : (L : Int) ≠ 0)) ?_
        first | refine g_call Tk Tryd.func49 (true42 _) rfl rfl rfl rfl rfl ?_ | refine s_callq Tk (fun _ => true42 _) rfl rfl rfl ?_
        refine s_put Tk rfl rfl rfl ?_
        refine e_done Tk Tryd.func49 (by kernel_rfl) ?_
        have hf : (IntKind.i64.wrap x.a0).tmod L = x.a0 % L := by rw [e3 _ hx0.1 hx0.2, Int.tmod_eq_emod_of_nonneg hx0.1]
        have he : IntKind.i64.wrap (x.a1.tmod 3) = x.a1 % 3 := by rw [Int.tmod_eq_emod_of_nonneg hx1.1, w64 (by omega) (by omega)]
        have ht : (IntKind.i64.wrap x.a2).tmod L = x.a2 % L := by rw [e3 _ hx2.1 hx2.2, Int.tmod_eq_emod_of_nonneg hx2.1]
        refine g_stop ?_
        refine rch_meet (l := [(1, .own 0 1 0 0), (2, .own 0 2 0 0), (3, .own 0 3 0 0), (5, ii V.length), (6, ii i), (7, .own 0 7 0 0), (8, .own 0 8 0 0)]) (Hv := [(1, .box [u8D kl, u8D km, r8s kr, linsD kx]), (2, .box [.i (.v (.slice none 0 0)), ii 0, ii 0, .i (.v (.slice none 0 0)), .i (.v (.slice none 0 0)), .i (.v (.slice none 0 0))]), (3, .box [ints [0, 1, 2], ii L, ii 0, ints M, vrs V, mvs W]), (7, .box [u8D x.a0, u8D x.a1, u8D x.a2, byts x.g, byts x.u]), (8, .box [ii (x.a0 % L), ii (x.a1 % 3), ii (x.a2 % L), ii trueE.op, ii trueE.vl, ii trueE.ix, exs trueE.args, .i (.v (.slice none 0 0))])]) (n := 182) ?_ ⟨rfl, rfl, rfl, rfl, rfl, rfl, rfl, trivial⟩ rfl ⟨rfl, rfl, rfl, rfl, by rw [← hf, ← he, ← ht]; rfl, trivial⟩ rfl rfl
        clear hf he ht e3
        obtain ⟨G, hG⟩ : ∃ G, G = guardE V.length x.g := ⟨_, rfl⟩
        obtain ⟨U, hU⟩ : ∃ U, U = updsE V.length x.u := ⟨_, rfl⟩
        apply join_p (P := True) (s6 := { σ := [(1, .own 0 1 0 0), (2, .own 0 2 0 0), (3, .own 0 3 0 0), (5, ii V.length), (6, ii i), (7, .own 0 7 0 0), (8, .own 0 8 0 0)], S := [(1, .box [u8D kl, u8D km, r8s kr, linsD kx]), (2, .box [.i (.v (.slice none 0 0)), ii 0, ii 0, .i (.v (.slice none 0 0)), .i (.v (.slice none 0 0)), .i (.v (.slice none 0 0))]), (3, .box [ints [0, 1, 2], ii L, ii 0, ints M, vrs V, mvs W]), (7, .box [u8D x.a0, u8D x.a1, u8D x.a2, byts x.g, byts x.u]), (8, .box [ii (x.a0 % L), ii (x.a1 % 3), ii (x.a2 % L), ii G.op, ii G.vl, ii G.ix, exs G.args, .i (.v (.slice none 0 0))])] :: O, n := 182 })
        · intro J
          refine g_run Tk Tryd.func49 ?_
          refine g_go Tk Tryd.func49 ?_
          first | refine g_cnd Tk Tryd.func49 rfl (fun h3 => ?_) (fun h3 => ?_) | refine g_know Tk Tryd.func49 rfl (fun h3 => ?_) (fun h3 => ?_) | refine s_know Tk (fun h3 => ?_) (fun h3 => ?_)
          · have h3 : 0 < x.g.length := by have := of_decide_eq_true h3; omega
            have hG2 : G = growE V.length false (x.g.take 12) := by rw [hG]; unfold guardE; rw [if_pos h3]
            have hgr := fun O => grow46 O (x.g.take 12) V.length false (by omega) (fun b h => hgb b (List.mem_of_mem_take h)) (Nat.le_trans (List.length_take_le _ _) (by decide))
            rw [← hG2, ← byts_min x.g 12 (N := 12) rfl] at hgr
            first | refine g_need Tk Tryd.func49 (by split <;> omega) ?_ | refine s_need Tk (by split <;> omega) ?_
            first | refine g_call Tk Tryd.func49 (hgr _) rfl rfl rfl rfl rfl ?_ | refine s_callq Tk (fun _ => hgr _) rfl rfl rfl ?_
            refine g_stop ?_
            refine rch_meet (J trivial) ⟨rfl, rfl, rfl, rfl, rfl, rfl, rfl, trivial⟩ rfl ⟨rfl, rfl, rfl, rfl, rfl, trivial⟩ rfl rfl
          · have h3 : ¬ 0 < x.g.length := by have := of_decide_eq_false h3; omega
            have hG2 : G = trueE := by rw [hG]; unfold guardE; rw [if_neg h3]
            subst hG2
            refine g_stop ?_
            refine rch_meet (J trivial) ⟨rfl, rfl, rfl, rfl, rfl, rfl, rfl, trivial⟩ rfl ⟨rfl, rfl, rfl, rfl, rfl, trivial⟩ rfl rfl
        · intro _
          apply join_p (P := True) (s6 := { σ := [(1, .own 0 1 0 0), (2, .own 0 2 0 0), (3, .own 0 3 0 0), (5, ii V.length), (6, ii i), (8, .own 0 8 0 0)], S := [(1, .box [u8D kl, u8D km, r8s kr, linsD kx]), (2, .box [.i (.v (.slice none 0 0)), ii 0, ii 0, .i (.v (.slice none 0 0)), .i (.v (.slice none 0 0)), .i (.v (.slice none 0 0))]), (3, .box [ints [0, 1, 2], ii L, ii 0, ints M, vrs V, mvs W]), (8, .box [ii (x.a0 % L), ii (x.a1 % 3), ii (x.a2 % L), ii G.op, ii G.vl, ii G.ix, exs G.args, upds U])] :: O, n := 182 })
          · intro J
            have nope : ¬ (x.u.length > 0 ∧ (V.length : Int) > 0) → U = [] := fun h => by rw [hU]; unfold updsE; rw [if_neg h]
            refine g_run Tk Tryd.func49 ?_
            refine g_go Tk Tryd.func49 ?_
            first | refine g_cnd Tk Tryd.func49 rfl (fun h3 => ?_) (fun h3 => ?_) | refine g_know Tk Tryd.func49 rfl (fun h3 => ?_) (fun h3 => ?_) | refine s_know Tk (fun h3 => ?_) (fun h3 => ?_)
            · have h3 : 0 < x.u.length := by have := of_decide_eq_true h3; omega
              first | refine g_cnd Tk Tryd.func49 rfl (fun h4 => ?_) (fun h4 => ?_) | refine g_know Tk Tryd.func49 rfl (fun h4 => ?_) (fun h4 => ?_) | refine s_know Tk (fun h4 => ?_) (fun h4 => ?_)
              · have h4 : 0 < V.length := by have := of_decide_eq_true h4; omega
                have hU2 : U = [⟨b0 x.u % V.length, growE V.length true ((x.u.take 12).drop 1)⟩] := by rw [hU]; unfold updsE; rw [if_pos ⟨h3, by omega⟩]
                have hgr := fun O => grow46 O ((x.u.take 12).drop 1) V.length true (by omega) (fun b h => hub b (List.mem_of_mem_take (List.mem_of_mem_drop h))) (Nat.le_trans (by simp only [List.length_drop]; omega) (Nat.le_trans (List.length_take_le 12 x.u) (by decide)))
                rw [← byts_min1 x.u 12 (N := 12) (A := 1) rfl rfl] at hgr
                generalize growE V.length true ((x.u.take 12).drop 1) = X at *
                subst hU2
                have hgu : (x.u.map u8I)[(0 : Int).toNat]? = some (u8I (b0 x.u)) := by
                  cases hxu : x.u with
                  | nil => rw [hxu] at h3; simp at h3
                  | cons b r => rfl
                have hb0 := b0_ok hub
                have hbw : (IntKind.i64.wrap (b0 x.u)).tmod V.length = b0 x.u % V.length := by
                  rw [w64 (by omega) (by omega), Int.tmod_eq_emod_of_nonneg hb0.1]
                refine g_drawn Tk Tryd.func49 mixedT rfl ?_
                first | refine g_need Tk Tryd.func49 (by exact ⟨by decide, by show (0 : Int) < (x.u.length : Int); omega⟩) ?_ | refine s_need Tk (by exact ⟨by decide, by show (0 : Int) < (x.u.length : Int); omega⟩) ?_
                first | refine g_elem Tk Tryd.func49 (hgu) ?_ | refine s_elem Tk (hgu) ?_
                first | refine g_need Tk Tryd.func49 (by exact (by omega : (V.length : Int) ≠ 0)) ?_ | refine s_need Tk (by exact (by omega : (V.length : Int) ≠ 0)) ?_
                first | refine g_need Tk Tryd.func49 (by split <;> omega) ?_ | refine s_need Tk (by split <;> omega) ?_
                first | refine g_call Tk Tryd.func49 (hgr _) rfl rfl rfl rfl rfl ?_ | refine s_callq Tk (fun _ => hgr _) rfl rfl rfl ?_
                refine s_put Tk rfl rfl rfl ?_
                refine e_done Tk Tryd.func49 (by kernel_rfl) ?_
                refine g_stop ?_
                exact rch_meet (J trivial) ⟨rfl, rfl, rfl, rfl, rfl, rfl, trivial⟩ rfl ⟨rfl, rfl, rfl, by rw [← hbw]; rfl, trivial⟩ rfl rfl
              · have h4 : ¬ 0 < V.length := by have := of_decide_eq_false h4; omega
                have := nope (by omega)
                subst this
                refine g_stop ?_
                refine rch_wk (wk_nilbox2 8 122 95 5 (pre := [ii (x.a0 % L), ii (x.a1 % 3), ii (x.a2 % L), ii G.op, ii G.vl, ii G.ix, exs G.args]) (post := []) rfl rfl rfl) ?_
                refine rch_wk (wk_freeze 122 rfl rfl) ?_
                refine rch_wk (wk_imm rfl) ?_
                exact rch_meet (J trivial) ⟨rfl, rfl, rfl, rfl, rfl, rfl, trivial⟩ rfl ⟨rfl, rfl, rfl, rfl, trivial⟩ rfl rfl
            · have h3 : ¬ 0 < x.u.length := by have := of_decide_eq_false h3; omega
              have := nope (by omega)
              subst this
              repeat (first | refine g_cnd Tk Tryd.func49 rfl (fun _ => ?_) (fun h => absurd h (by decide)) | refine g_cnd Tk Tryd.func49 rfl (fun h => absurd h (by decide)) (fun _ => ?_) | refine g_know Tk Tryd.func49 rfl (fun _ => ?_) (fun h => absurd h (by decide)) | refine g_know Tk Tryd.func49 rfl (fun h => absurd h (by decide)) (fun _ => ?_) | refine s_know Tk (fun _ => ?_) (fun h => absurd h (by decide)) | refine s_know Tk (fun h => absurd h (by decide)) (fun _ => ?_))
              refine g_stop ?_
              refine rch_wk (wk_nilbox2 8 122 95 5 (pre := [ii (x.a0 % L), ii (x.a1 % 3), ii (x.a2 % L), ii G.op, ii G.vl, ii G.ix, exs G.args]) (post := []) rfl rfl rfl) ?_
              refine rch_wk (wk_freeze 122 rfl rfl) ?_
              refine rch_wk (wk_imm rfl) ?_
              exact rch_meet (J trivial) ⟨rfl, rfl, rfl, rfl, rfl, rfl, trivial⟩ rfl ⟨rfl, rfl, rfl, rfl, trivial⟩ rfl rfl
          · intro _
            obtain ⟨y, hy⟩ : ∃ y, y = mvOf L V.length x := ⟨_, rfl⟩
            refine rch_meet (l := [(1, .own 0 1 0 0), (2, .own 0 2 0 0), (3, .own 0 3 0 0), (5, ii V.length), (6, ii i), (8, .own 0 8 0 0)]) (Hv := [(1, .box [u8D kl, u8D km, r8s kr, linsD kx]), (2, .box [.i (.v (.slice none 0 0)), ii 0, ii 0, .i (.v (.slice none 0 0)), .i (.v (.slice none 0 0)), .i (.v (.slice none 0 0))]), (3, .box [ints [0, 1, 2], ii L, ii 0, ints M, vrs V, mvs W]), (8, .box [ii y.frm, ii y.ev, ii y.to, ii y.g.op, ii y.g.vl, ii y.g.ix, exs y.g.args, upds y.us])]) (n := 182) ?_ ⟨rfl, rfl, rfl, rfl, rfl, rfl, trivial⟩ rfl ⟨rfl, rfl, rfl, by rw [hy, hG, hU]; rfl, trivial⟩ rfl rfl
            rw [← hy] at hsucc
            clear hG hU hx0 hx1 hx2 hgb hgl hub hul hg hy G U
            have hW8 : W.length ≤ 8 := by omega
            refine g_run Tk Tryd.func49 ?_
            refine g_go Tk Tryd.func49 ?_
            refine g_loop ?_
            refine rch_loop2 (fun a : Nat => [(1, .own 0 1 0 0), (2, .own 0 2 0 0), (3, .own 0 3 0 0), (5, ii V.length), (6, ii i), (8, .own 0 8 0 0), (9, ii a)]) (fun a => [(1, .box [u8D kl, u8D km, r8s kr, linsD kx]), (2, .box [.i (.v (.slice none 0 0)), ii 0, ii 0, .i (.v (.slice none 0 0)), .i (.v (.slice none 0 0)), .i (.v (.slice none 0 0))]), (3, .box [ints [0, 1, 2], ii L, ii 0, ints M, vrs V, mvs W]), (8, .box [ii y.frm, ii y.ev, ii y.to, ii y.g.op, ii y.g.vl, ii y.g.ix, exs y.g.args, upds y.us])]) (fun _ => O) 182
              (fun a => a ≤ W.length ∧ posR W y W.length = posR W y a) (fun a => a) W.length ⟨Nat.le_refl _, rfl⟩ ⟨rfl, rfl, rfl, rfl, rfl, rfl, rfl, trivial⟩ rfl ⟨rfl, rfl, rfl, rfl, trivial⟩ rfl rfl ?_
            rintro a ⟨ha, hpos⟩ ih2
            apply join_p (P := posR W y W.length = a) (s6 := { σ := [(1, .own 0 1 0 0), (2, .own 0 2 0 0), (3, .own 0 3 0 0), (5, ii V.length), (6, ii i), (8, .own 0 8 0 0), (9, ii a)], S := [(1, .box [u8D kl, u8D km, r8s kr, linsD kx]), (2, .box [.i (.v (.slice none 0 0)), ii 0, ii 0, .i (.v (.slice none 0 0)), .i (.v (.slice none 0 0)), .i (.v (.slice none 0 0))]), (3, .box [ints [0, 1, 2], ii L, ii 0, ints M, vrs V, mvs W]), (8, .box [ii y.frm, ii y.ev, ii y.to, ii y.g.op, ii y.g.vl, ii y.g.ix, exs y.g.args, upds y.us])] :: O, n := 182 })
            · intro J
              cases a with
              | zero =>
                refine g_run Tk Tryd.func49 ?_
                refine g_drawn Tk Tryd.func49 mixedT rfl ?_
                first | refine g_cnd Tk Tryd.func49 rfl (fun h => absurd h (by decide)) (fun _ => ?_) | refine g_know Tk Tryd.func49 rfl (fun h => absurd h (by decide)) (fun _ => ?_) | refine s_know Tk (fun h => absurd h (by decide)) (fun _ => ?_)
                refine e_done Tk Tryd.func49 (by kernel_rfl) ?_
                first | refine g_cnd Tk Tryd.func49 rfl (fun h => absurd h (by decide)) (fun _ => ?_) | refine g_know Tk Tryd.func49 rfl (fun h => absurd h (by decide)) (fun _ => ?_) | refine s_know Tk (fun h => absurd h (by decide)) (fun _ => ?_)
                refine g_stop ?_
                exact rch_meet (J hpos) ⟨rfl, rfl, rfl, rfl, rfl, rfl, rfl, trivial⟩ rfl ⟨rfl, rfl, rfl, rfl, trivial⟩ rfl rfl
              | succ a =>
                have hgW : (W.map mvI)[(IntKind.i64.wrap (((a + 1 : Nat) : Int) - 1)).toNat]? = some (mvI (W[a]'(by omega))) := by
                  rw [w64 (by omega) (by omega), show (((a + 1 : Nat) : Int) - 1).toNat = a by omega]
                  simp [show a < W.length by omega]
                have hwa : IntKind.i64.wrap (((a + 1 : Nat) : Int) - 1) = (a : Int) := by rw [w64 (by omega) (by omega)]; omega
                have hwn : 0 ≤ IntKind.i64.wrap (((a + 1 : Nat) : Int) - 1) ∧ IntKind.i64.wrap (((a + 1 : Nat) : Int) - 1) < (W.length : Int) := by rw [hwa]; omega
                have hpos2 : posR W y (a + 1) = bif gtMv (W[a]'(by omega)) y then posR W y a else a + 1 := by
                  simp only [posR]
                  rw [List.getElem?_eq_getElem (by omega)]
                generalize W[a]'(by omega) = z at *
                have yes : (z.frm > y.frm ∨ (z.frm = y.frm ∧ z.ev > y.ev)) → posR W y W.length = posR W y a := fun h => by
                  rw [hpos, hpos2]; unfold gtMv; rw [decide_eq_true h]; rfl
                have no : ¬ (z.frm > y.frm ∨ (z.frm = y.frm ∧ z.ev > y.ev)) → posR W y W.length = a + 1 := fun h => by
                  rw [hpos, hpos2]; unfold gtMv; rw [decide_eq_false h]; rfl
                clear hpos hpos2
                refine g_run Tk Tryd.func49 ?_
                refine g_drawn Tk Tryd.func49 mixedT rfl ?_
                first | refine g_cnd Tk Tryd.func49 rfl (fun h3 => ?_) (fun h3 => ?_) | refine g_know Tk Tryd.func49 rfl (fun h3 => ?_) (fun h3 => ?_) | refine s_know Tk (fun h3 => ?_) (fun h3 => ?_)
                · first | refine g_need Tk Tryd.func49 (by exact hwn) ?_ | refine s_need Tk (by exact hwn) ?_
                  first | refine g_elem Tk Tryd.func49 (hgW) ?_ | refine s_elem Tk (hgW) ?_
                  first | refine g_cnd Tk Tryd.func49 rfl (fun h4 => ?_) (fun h4 => ?_) | refine g_know Tk Tryd.func49 rfl (fun h4 => ?_) (fun h4 => ?_) | refine s_know Tk (fun h4 => ?_) (fun h4 => ?_)
                  · have h4 : z.frm > y.frm := of_decide_eq_true h4
                    refine e_done Tk Tryd.func49 (by kernel_rfl) ?_
                    repeat (first | refine g_cnd Tk Tryd.func49 rfl (fun _ => ?_) (fun h => absurd h (by decide)) | refine g_cnd Tk Tryd.func49 rfl (fun h => absurd h (by decide)) (fun _ => ?_) | refine g_know Tk Tryd.func49 rfl (fun _ => ?_) (fun h => absurd h (by decide)) | refine g_know Tk Tryd.func49 rfl (fun h => absurd h (by decide)) (fun _ => ?_) | refine s_know Tk (fun _ => ?_) (fun h => absurd h (by decide)) | refine s_know Tk (fun h => absurd h (by decide)) (fun _ => ?_))
                    refine g_loop ?_
                    exact ih2 a _ _ ⟨by omega, yes (.inl h4)⟩ (by omega) ⟨rfl, rfl, rfl, rfl, rfl, rfl, congrArg ii hwa, trivial⟩ rfl ⟨rfl, rfl, rfl, rfl, trivial⟩ rfl rfl
                  · have h4 : ¬ z.frm > y.frm := of_decide_eq_false h4
                    first | refine g_need Tk Tryd.func49 (by exact hwn) ?_ | refine s_need Tk (by exact hwn) ?_
                    first | refine g_elem Tk Tryd.func49 (hgW) ?_ | refine s_elem Tk (hgW) ?_
                    first | refine g_cnd Tk Tryd.func49 rfl (fun h5 => ?_) (fun h5 => ?_) | refine g_know Tk Tryd.func49 rfl (fun h5 => ?_) (fun h5 => ?_) | refine s_know Tk (fun h5 => ?_) (fun h5 => ?_)
                    · have h5 := beqT h5
                      first | refine g_need Tk Tryd.func49 (by exact hwn) ?_ | refine s_need Tk (by exact hwn) ?_
                      first | refine g_elem Tk Tryd.func49 (hgW) ?_ | refine s_elem Tk (hgW) ?_
                      refine e_done Tk Tryd.func49 (by kernel_rfl) ?_
                      first | refine g_cnd Tk Tryd.func49 rfl (fun h6 => ?_) (fun h6 => ?_) | refine g_know Tk Tryd.func49 rfl (fun h6 => ?_) (fun h6 => ?_) | refine s_know Tk (fun h6 => ?_) (fun h6 => ?_)
                      · have h6 : z.ev > y.ev := of_decide_eq_true h6
                        refine g_loop ?_
                        exact ih2 a _ _ ⟨by omega, yes (.inr ⟨h5, h6⟩)⟩ (by omega) ⟨rfl, rfl, rfl, rfl, rfl, rfl, congrArg ii hwa, trivial⟩ rfl ⟨rfl, rfl, rfl, rfl, trivial⟩ rfl rfl
                      · have h6 : ¬ z.ev > y.ev := of_decide_eq_false h6
                        refine g_stop ?_
                        exact rch_meet (J (no (by rintro (h | h); exact h4 h; exact h6 h.2))) ⟨rfl, rfl, rfl, rfl, rfl, rfl, rfl, trivial⟩ rfl ⟨rfl, rfl, rfl, rfl, trivial⟩ rfl rfl
                    · have h5 := beqF h5
                      refine e_done Tk Tryd.func49 (by kernel_rfl) ?_
                      repeat (first | refine g_cnd Tk Tryd.func49 rfl (fun _ => ?_) (fun h => absurd h (by decide)) | refine g_cnd Tk Tryd.func49 rfl (fun h => absurd h (by decide)) (fun _ => ?_) | refine g_know Tk Tryd.func49 rfl (fun _ => ?_) (fun h => absurd h (by decide)) | refine g_know Tk Tryd.func49 rfl (fun h => absurd h (by decide)) (fun _ => ?_) | refine s_know Tk (fun _ => ?_) (fun h => absurd h (by decide)) | refine s_know Tk (fun h => absurd h (by decide)) (fun _ => ?_))
                      refine g_stop ?_
                      exact rch_meet (J (no (by rintro (h | h); exact h4 h; exact h5 h.1))) ⟨rfl, rfl, rfl, rfl, rfl, rfl, rfl, trivial⟩ rfl ⟨rfl, rfl, rfl, rfl, trivial⟩ rfl rfl
                · have := of_decide_eq_false h3
                  omega
            · intro hP
              clear ih2 hpos
              refine g_run Tk Tryd.func49 ?_
              refine g_go Tk Tryd.func49 ?_
              refine g_drawn Tk Tryd.func49 mixedT rfl ?_
              first | refine g_need Tk Tryd.func49 (by exact ⟨by omega, rfl, by show (a : Int) ≤ (W.length : Int); omega⟩) ?_ | refine s_need Tk (by exact ⟨by omega, rfl, by show (a : Int) ≤ (W.length : Int); omega⟩) ?_
              first | refine g_need Tk Tryd.func49 (by exact ⟨by omega, by show (a : Int) ≤ (W.length : Int); omega⟩) ?_ | refine s_need Tk (by exact ⟨by omega, by show (a : Int) ≤ (W.length : Int); omega⟩) ?_
              refine s_old Tk ?_
              refine d_need Tk (by exact ⟨by show (1 + (W.length - (a : Int).toNat)) * 96 ≤ 140737488355328; omega, by show 1 + (W.length - (a : Int).toNat) ≤ 9223372036854775807; omega⟩) ?_
              refine d_mod Tk (p := ⟨[(178, .osl 0 178), (173, .dead)], [(178, .arr 122 8 (1 + (W.length - (a : Int).toNat)) ([mvI y] ++ (W.map mvI).drop (a : Int).toNat) true)], some 173⟩) rfl rfl rfl ?_
              refine d_need Tk (by exact ⟨by show ((a : Int).toNat + (1 + (W.length - (a : Int).toNat))) * 96 ≤ 140737488355328; omega, by show (a : Int).toNat + (1 + (W.length - (a : Int).toNat)) ≤ 9223372036854775807; omega, by show 0 < 1 + (W.length - (a : Int).toNat); omega⟩) ?_
              refine d_mod Tk (p := ⟨[], [(3, .box [ints [0, 1, 2], ii L, ii 0, ints M, vrs V, .osl 0 179])], none⟩) rfl rfl rfl ?_
              refine d_done Tk Tryd.func49 (by kernel_rfl) (GM.h ?_)
              refine g_loop ?_
              refine rch_wk (wk_freeze 179 rfl rfl) ?_
              refine rch_wk (wk_imm rfl) ?_
              have hins : mvsL L V.length kx (i + 1) = W.take a ++ y :: W.drop a := by rw [hsucc]; unfold insMv; rw [hP]
              refine ih (i + 1) _ _ (show i + 1 ≤ min kx.length 8 by omega) (by omega) ⟨rfl, rfl, rfl, rfl, congrArg ii (wsucc (n := 8) h2 (by decide)), trivial⟩ rfl ⟨rfl, rfl, ?_, trivial⟩ rfl rfl
              show some (Ob.box [ints [0, 1, 2], ii L, ii 0, ints M, vrs V, .i (.sl 8 ((a : Int).toNat + (1 + (W.length - (a : Int).toNat))) ((W.map mvI).take (a : Int).toNat ++ ([mvI y] ++ (W.map mvI).drop (a : Int).toNat)))]) = some (Ob.box [ints [0, 1, 2], ii L, ii 0, ints M, vrs V, mvs (mvsL L V.length kx (i + 1))])
              rw [hins]
              have hta : (a : Int).toNat = a := by omega
              have hll : (W.take a ++ y :: W.drop a).length = a + (1 + (W.length - a)) := by
                simp only [List.length_append, List.length_take, List.length_cons, List.length_drop]
                omega
              have hmm : (W.take a ++ y :: W.drop a).map mvI = (W.map mvI).take a ++ ([mvI y] ++ (W.map mvI).drop a) := by
                rw [List.map_append, List.map_cons, List.map_take, List.map_drop]
                rfl
              rw [hta]
              show _ = some (Ob.box [ints [0, 1, 2], ii L, ii 0, ints M, vrs V, .i (.sl 8 (W.take a ++ y :: W.drop a).length ((W.take a ++ y :: W.drop a).map mvI))])
              rw [hll, hmm]
      · have h2 : ¬ i < 8 := by have := of_decide_eq_false h2; omega
        have := hend (by omega)
        subst this
        refine g_ret Tk (r := _) rfl rfl rfl trivial rfl rfl ?_
        rfl
    · have h1 : ¬ i < kx.length := by have := of_decide_eq_false h1; omega
      have := hend (by omega)
      subst this
      repeat (first | refine g_cnd Tk Tryd.func49 rfl (fun _ => ?_) (fun h => absurd h (by decide)) | refine g_cnd Tk Tryd.func49 rfl (fun h => absurd h (by decide)) (fun _ => ?_) | refine g_know Tk Tryd.func49 rfl (fun _ => ?_) (fun h => absurd h (by decide)) | refine g_know Tk Tryd.func49 rfl (fun h => absurd h (by decide)) (fun _ => ?_) | refine s_know Tk (fun _ => ?_) (fun h => absurd h (by decide)) | refine s_know Tk (fun h => absurd h (by decide)) (fun _ => ?_))
      refine g_ret Tk (r := _) rfl rfl rfl trivial rfl rfl ?_
      rfl
end Go.AI


/- Arguments: slices and structs of them, opened to data, and read again behind the call. -/
namespace Go.Proofs.YtonnakcgopcfnaaDoor
open Go.ChangeShapes Go.WideShapes Go.ChangeAt Go.RowKit Go.Deep Go.WideElems
set_option maxRecDepth 100000
/-- All that memory holds. -/
def KW (W : World) : AI.Kn := fun b o => W.cell? ⟨b, o, none⟩
theorem KW_ok (W : World) : ∀ bl o x, KW W bl o = some x → W.cell? ⟨bl, o, none⟩ = some x := fun _ _ _ h => h
section
variable {H : Type} {enc : TypeId × Value → H} {P : Program} {W : World}
/-- What is read of a type is data of a kind. -/
def Opn (enc : TypeId × Value → H) (P : Program) (W : World) (t : TypeId) (R : List AI.I → Prop) : Prop :=
  ∀ n cs x, DataW.trod enc P W 0 (fun _ => true) true n t cs = some x → ∃ is, AI.RepL (KW W) cs is ∧ R is
theorem repL_app {K : AI.Kn} {a b : List Value} {c d : List AI.I} (h : AI.RepL K a c) (h' : AI.RepL K b d) : AI.RepL K (a ++ b) (c ++ d) := h.append h'
theorem opn_int {t : TypeId} {k : IntKind} (ht : P.underlying t = some (.int k)) : Opn enc P W t fun is => ∃ z, is = [.v (.int k z)] ∧ (Lit.int k z).wf = true := by
  intro n cs x h
  obtain ⟨z, rfl, rfl, hw⟩ := DataW.trod_int ht h
  exact ⟨[.v (.int k z)], .cons (.v rfl) .nil, z, rfl, hw⟩
theorem ints_rep {K : AI.Kn} {k : IntKind} : ∀ {cs : List Value}, (∀ i, i < cs.length → ∃ z, cs[i]? = some (.int k z) ∧ (Lit.int k z).wf = true) → ∃ zs : List Int, zs.length = cs.length ∧ AI.RepL K cs (zs.map fun z => .v (.int k z)) ∧ ∀ z ∈ zs, (Lit.int k z).wf = true
  | [], _ => ⟨[], rfl, .nil, by simp⟩
  | c :: cs, h => by
    obtain ⟨z, hz, hw⟩ := h 0 (by simp)
    simp only [List.getElem?_cons_zero, Option.some.injEq] at hz
    subst hz
    obtain ⟨zs, h1, h2, h3⟩ := ints_rep (cs := cs) fun i hi => by
      have := h (i + 1) (by simp; omega)
      simpa using this
    exact ⟨z :: zs, by simp [h1], .cons (.v rfl) h2, fun y hy => by
      rcases List.mem_cons.1 hy with rfl | hy
      · exact hw
      · exact h3 y hy⟩
theorem opn_array {t e : TypeId} {k : IntKind} {m : Nat} (ht : P.underlying t = some (.array m e)) (he : P.underlying e = some (.int k)) (hc : P.cellsOf e = 1) (hct : P.cellsOf t = m) :
    Opn enc P W t fun is => ∃ zs : List Int, zs.length = m ∧ is = zs.map (fun z => .v (.int k z)) ∧ ∀ z ∈ zs, (Lit.int k z).wf = true := by
  intro n cs x h
  obtain ⟨xs, f, rfl, rfl, hl, hlen, hx⟩ := DataW.trod_array ht h
  rw [hct] at hl
  obtain ⟨zs, h1, h2, h3⟩ := ints_rep (K := KW W) (k := k) (cs := cs) fun i hi => by
    have h0 := hx i (by omega)
    rw [hc, Nat.mul_one, List.getElem?_eq_getElem (by omega)] at h0
    obtain ⟨z, hz, _, hw⟩ := DataW.trod_int he h0
    refine ⟨z, ?_, hw⟩
    have := congrArg (fun l => l[0]?) hz
    simpa [List.getElem?_take, List.getElem?_drop] using this
  exact ⟨_, h2, zs, by omega, rfl, h3⟩
/-- A slice. -/
theorem opn_slice {t e : TypeId} {z : Nat} {R : List AI.I → Prop} (ht : P.underlying t = some (.slice e)) (hc : P.cellsOf e = z) (hz : 0 < z) (he : Opn enc P W e R) :
    Opn enc P W t fun is => ∃ xs : List (List AI.I), is = [.sl z xs.length xs] ∧ (∀ d ∈ xs, R d) ∧ xs.length ≤ maxLen := by
  intro n cs x h
  rcases open_slice ht h with ⟨rfl, _⟩ | ⟨a, len, cap, m, f, D, Pl, rfl, _, hle, hm, hmm, _, hx⟩
  · exact ⟨[.sl z 0 []], .cons .nil .nil, [], rfl, by simp, Nat.zero_le _⟩
  · simp only [if_true] at hmm
    subst hmm
    rw [hc] at hx
    by_cases h0 : m = 0
    · subst h0
      obtain rfl : len = 0 := by omega
      exact ⟨[.sl z 0 []], .cons .nil .nil, [], rfl, by simp, Nat.zero_le _⟩
    · have hspot : a.spot = none := by
        obtain ⟨cs', h1, _⟩ := hx 0 (by omega)
        obtain ⟨_, hl, hcell⟩ := World.cells?_some h1
        have := hcell 0 hz
        rw [Nat.zero_mul] at this
        have ha : (a.add 0).add 0 = a := by simp [Addr.add]
        rw [ha, List.getElem?_eq_getElem (by omega)] at this
        unfold World.cell? at this
        cases hsp : a.spot with
        | none => rfl
        | some s =>
          rw [hsp] at this
          split at this <;> simp at this
      obtain ⟨bl, o, sp⟩ := a
      simp only at hspot
      subst hspot
      have build : ∀ k, k ≤ len → ∃ (xs : List (List AI.I)) (vs : List Value), xs.length = k ∧ vs.length = k * z ∧ AI.RepL (KW W) vs xs.flatten ∧ (∀ d ∈ xs, R d) ∧ (∀ d ∈ xs, d.length = z) ∧ ∀ j c, vs[j]? = some c → KW W bl (o + j) = some c := by
        intro k
        induction k with
        | zero => intro _; exact ⟨[], [], rfl, by simp, .nil, by simp, by simp, by simp⟩
        | succ k ih =>
          intro hk
          obtain ⟨xs, vs, h1, h2, h3, h4, h5, h6⟩ := ih (by omega)
          obtain ⟨cs', hc1, hc2⟩ := hx k (by omega)
          obtain ⟨_, hl, hcell⟩ := World.cells?_some hc1
          obtain ⟨is, hr, hR⟩ := he f cs' _ hc2
          refine ⟨xs ++ [is], vs ++ cs', by simp [h1], by simp [h2, hl, Nat.add_mul], ?_, ?_, ?_, ?_⟩
          · rw [List.flatten_append]
            simpa using repL_app h3 hr
          · intro d hd
            rcases List.mem_append.1 hd with h | h
            · exact h4 d h
            · simp only [List.mem_singleton] at h
              subst h
              exact hR
          · intro d hd
            rcases List.mem_append.1 hd with h | h
            · exact h5 d h
            · simp only [List.mem_singleton] at h
              subst h
              rw [← hr.length, hl]
          · intro j c hj
            rw [List.getElem?_append] at hj
            split at hj
            · exact h6 j c hj
            · rename_i hge
              have hlt : j - vs.length < cs'.length := (List.getElem?_eq_some_iff.1 hj).1
              have := hcell (j - vs.length) (by omega)
              rw [hj] at this
              unfold KW
              rw [← this]
              have e : ((⟨bl, o, none⟩ : Addr).add (k * z)).add (j - vs.length) = ⟨bl, o + j, none⟩ := by
                have e1 : (⟨bl, o, none⟩ : Addr).add (k * z) = ⟨bl, o + k * z, none⟩ := by unfold Addr.add; split <;> simp_all
                rw [e1]
                unfold Addr.add
                split
                · simp <;> omega
                · simp <;> omega
              rw [e]
      obtain ⟨xs, vs, h1, h2, h3, h4, h5, h6⟩ := build len (Nat.le_refl _)
      refine ⟨[.sl z xs.length xs], .cons ?_ .nil, xs, rfl, h4, by omega⟩
      rw [h1]
      exact .sl h3 h5 h6 hle h1
/-- Structs of three fields, and of two. -/
theorem opn_struct3 {t : TypeId} {f0 f1 f2 : Field} {R0 R1 R2 : List AI.I → Prop} {z0 z1 z2 : Nat} (ht : P.underlying t = some (.struct #[f0, f1, f2])) (hc : P.cellsOf t = z0 + z1 + z2)
    (c0 : P.cellsOf f0.type = z0) (c1 : P.cellsOf f1.type = z1) (c2 : P.cellsOf f2.type = z2) (o0 : f0.offset = 0) (o1 : f1.offset = z0) (o2 : f2.offset = z0 + z1)
    (h0 : Opn enc P W f0.type R0) (h1 : Opn enc P W f1.type R1) (h2 : Opn enc P W f2.type R2) : Opn enc P W t fun is => ∃ a b c, is = a ++ b ++ c ∧ R0 a ∧ R1 b ∧ R2 c := by
  intro n cs x h
  obtain ⟨y0, y1, y2, m, _, hl, g0, g1, g2⟩ := trod_struct3 ht h
  obtain ⟨a, ra, ha⟩ := h0 _ _ _ g0
  obtain ⟨b, rb, hb⟩ := h1 _ _ _ g1
  obtain ⟨c, rc, hcc⟩ := h2 _ _ _ g2
  refine ⟨a ++ b ++ c, ?_, a, b, c, rfl, ha, hb, hcc⟩
  have e : cs = (cs.drop f0.offset).take (P.cellsOf f0.type) ++ (cs.drop f1.offset).take (P.cellsOf f1.type) ++ (cs.drop f2.offset).take (P.cellsOf f2.type) := by
    rw [c0, c1, c2, o0, o1, o2, List.drop_zero]
    have e1 : (cs.drop (z0 + z1)).take z2 = cs.drop (z0 + z1) := List.take_of_length_le (by simp; omega)
    rw [e1]
    have e2 : cs.drop (z0 + z1) = (cs.drop z0).drop z1 := by rw [List.drop_drop]
    rw [e2, List.append_assoc, List.take_append_drop, List.take_append_drop]
  rw [e]
  exact repL_app (repL_app ra rb) rc
theorem opn_struct4 {t : TypeId} {f0 f1 f2 f3 : Field} {R0 R1 R2 R3 : List AI.I → Prop} {z0 z1 z2 z3 : Nat} (ht : P.underlying t = some (.struct #[f0, f1, f2, f3])) (hc : P.cellsOf t = z0 + z1 + z2 + z3)
    (c0 : P.cellsOf f0.type = z0) (c1 : P.cellsOf f1.type = z1) (c2 : P.cellsOf f2.type = z2) (c3 : P.cellsOf f3.type = z3) (o0 : f0.offset = 0) (o1 : f1.offset = z0) (o2 : f2.offset = z0 + z1) (o3 : f3.offset = z0 + z1 + z2)
    (h0 : Opn enc P W f0.type R0) (h1 : Opn enc P W f1.type R1) (h2 : Opn enc P W f2.type R2) (h3 : Opn enc P W f3.type R3) : Opn enc P W t fun is => ∃ a b c d, is = a ++ b ++ c ++ d ∧ R0 a ∧ R1 b ∧ R2 c ∧ R3 d := by
  intro n cs x h
  obtain ⟨y0, y1, y2, y3, m, _, hl, g0, g1, g2, g3⟩ := Go.Joins.trod_struct4 ht h
  obtain ⟨a, ra, ha⟩ := h0 _ _ _ g0
  obtain ⟨b, rb, hb⟩ := h1 _ _ _ g1
  obtain ⟨c, rc, hcc⟩ := h2 _ _ _ g2
  obtain ⟨d, rd, hd⟩ := h3 _ _ _ g3
  refine ⟨a ++ b ++ c ++ d, ?_, a, b, c, d, rfl, ha, hb, hcc, hd⟩
  have e : cs = (cs.drop f0.offset).take (P.cellsOf f0.type) ++ (cs.drop f1.offset).take (P.cellsOf f1.type) ++ (cs.drop f2.offset).take (P.cellsOf f2.type) ++ (cs.drop f3.offset).take (P.cellsOf f3.type) := by
    rw [c0, c1, c2, c3, o0, o1, o2, o3, List.drop_zero]
    have e1 : (cs.drop (z0 + z1 + z2)).take z3 = cs.drop (z0 + z1 + z2) := List.take_of_length_le (by simp; omega)
    rw [e1]
    have e2 : cs.drop (z0 + z1 + z2) = ((cs.drop z0).drop z1).drop z2 := by rw [List.drop_drop, List.drop_drop, Nat.add_assoc]
    have e3 : cs.drop (z0 + z1) = (cs.drop z0).drop z1 := by rw [List.drop_drop]
    rw [e2, e3, List.append_assoc, List.take_append_drop, List.append_assoc, List.take_append_drop, List.take_append_drop]
  rw [e]
  exact repL_app (repL_app (repL_app ra rb) rc) rd
/-- Read again behind the call. -/
theorem args_again {t : TypeId} (hl : laidOutB P = true) (hr : P.readableRec t = true) (hrow : decide (t < P.types.size) = true) {W' : World} {v : Value} {d : DataW H} {ps : List MemPlace}
    (h : DataW.Trod enc P W 0 (fun _ => true) true t v d ps) (hold : ∀ i, i < W.heap.size → W'.heap[i]? = W.heap[i]?) : DataW.Trod enc P W' 0 (fun b => decide (b < W.heap.size)) true t v d ps := by
  have hlt : ∀ p ∈ ps, p.block < W.heap.size := by
    obtain ⟨n, hn⟩ := h
    exact DataW.trod_lt n t _ _ hn
  refine Trod_stays hl hr (of_decide_eq_true hrow) h (fun p hp => ?_) (fun p hp => decide_eq_true (hlt p hp))
  have hb := hlt p hp
  cases p with
  | cell b off =>
    show W'.cell? ⟨b, off, none⟩ = W.cell? ⟨b, off, none⟩
    unfold World.cell?
    rw [hold b hb]
  | map b => exact hold b hb
end
end Go.Proofs.YtonnakcgopcfnaaDoor


/- The arguments of the statements about sketched automata: data. -/
namespace Go.Proofs.YtonnakcgopcfnaaDoor
open Go.ChangeShapes Go.WideShapes Go.ChangeAt Go.RowKit Go.Deep Go.WideElems
set_option maxRecDepth 100000
section
variable {H : Type} {enc : TypeId × Value → H} {W : World}
theorem list_of {α β : Type} {f : α → β} {Q : α → Prop} : ∀ {xs : List β}, (∀ d ∈ xs, ∃ a, d = f a ∧ Q a) → ∃ l : List α, xs = l.map f ∧ ∀ a ∈ l, Q a
  | [], _ => ⟨[], rfl, by simp⟩
  | d :: xs, h => by
    obtain ⟨a, ha, hq⟩ := h d (by simp)
    obtain ⟨l, hl, hql⟩ := list_of (xs := xs) fun e he => h e (by simp [he])
    refine ⟨a :: l, by rw [ha, hl]; rfl, fun b hb => ?_⟩
    rcases List.mem_cons.1 hb with rfl | hb
    · exact hq
    · exact hql b hb
theorem wf_u8 {z : Int} (h : (Lit.int .u8 z).wf = true) : 0 ≤ z ∧ z ≤ 255 := by
  simp only [Lit.wf, Bool.and_eq_true, decide_eq_true_eq] at h
  have e1 : IntKind.u8.min = 0 := rfl
  have e2 : IntKind.u8.max = 255 := rfl
  rw [e1, e2] at h
  exact h
theorem wf_i8 {z : Int} (h : (Lit.int .i8 z).wf = true) : -128 ≤ z ∧ z ≤ 127 := by
  simp only [Lit.wf, Bool.and_eq_true, decide_eq_true_eq] at h
  have e1 : IntKind.i8.min = -128 := rfl
  have e2 : IntKind.i8.max = 127 := rfl
  rw [e1, e2] at h
  exact h
theorem maxLen63 {n : Nat} (h : n ≤ maxLen) : n ≤ AI.max63 := by
  simp only [maxLen] at h
  simp only [AI.max63]
  omega
theorem opn_byts : Opn enc Tryd.prog W 38 fun is => ∃ l : List Int, is = [.sl 1 l.length (l.map AI.u8I)] ∧ AI.byteOk l ∧ l.length ≤ AI.max63 := by
  intro n cs x h
  obtain ⟨is, hr, xs, rfl, hx, hl⟩ := opn_slice Tryd.underlying38 (z := 1) (by kernel_rfl) (by decide) (opn_int Tryd.underlying5) n cs x h
  obtain ⟨l, rfl, hq⟩ := list_of (f := AI.u8I) (Q := fun z => 0 ≤ z ∧ z ≤ 255) (xs := xs) fun d hd => by
    obtain ⟨z, hz, hw⟩ := hx d hd
    exact ⟨z, hz, wf_u8 hw⟩
  refine ⟨_, hr, l, by simp, hq, maxLen63 (by simpa using hl)⟩
theorem opn_lin : Opn enc Tryd.prog W 191 fun is => ∃ x : AI.Lin, is = AI.linI x ∧ AI.linOk x := by
  intro n cs x h
  obtain ⟨is, hr, a, b, c, rfl, ⟨zs, hz, rfl, hw⟩, ⟨g, rfl, hg, hgl⟩, ⟨u, rfl, hu, hul⟩⟩ := opn_struct3 Tryd.underlying191 (z0 := 3) (z1 := 1) (z2 := 1) (by kernel_rfl) (by kernel_rfl) (by kernel_rfl) (by kernel_rfl) rfl rfl rfl
    (opn_array Tryd.underlying189 Tryd.underlying5 (by kernel_rfl) (by kernel_rfl)) opn_byts opn_byts n cs x h
  match zs, hz with
  | [p, q, r], _ =>
    exact ⟨_, hr, ⟨p, q, r, g, u⟩, rfl, wf_u8 (hw p (by simp)), wf_u8 (hw q (by simp)), wf_u8 (hw r (by simp)), hg, hgl, hu, hul⟩
theorem opn_lins : Opn enc Tryd.prog W 97 fun is => ∃ l : List AI.Lin, is = [.sl 5 l.length (l.map AI.linI)] ∧ (∀ x ∈ l, AI.linOk x) ∧ l.length ≤ AI.max63 := by
  intro n cs x h
  obtain ⟨is, hr, xs, rfl, hx, hl⟩ := opn_slice Tryd.underlying97 (z := 5) (by kernel_rfl) (by decide) opn_lin n cs x h
  obtain ⟨l, rfl, hq⟩ := list_of (f := AI.linI) (Q := AI.linOk) (xs := xs) hx
  refine ⟨_, hr, l, by simp, hq, maxLen63 (by simpa using hl)⟩
theorem opn_pairs : Opn enc Tryd.prog W 22 fun is => ∃ l : List (Int × Int), is = [.sl 2 l.length (l.map AI.r8I)] ∧ (∀ x ∈ l, AI.pairOk x) ∧ l.length ≤ AI.max63 := by
  intro n cs x h
  obtain ⟨is, hr, xs, rfl, hx, hl⟩ := opn_slice Tryd.underlying22 (z := 2) (by kernel_rfl) (by decide) (opn_array Tryd.underlying144 Tryd.underlying143 (by kernel_rfl) (by kernel_rfl)) n cs x h
  obtain ⟨l, rfl, hq⟩ := list_of (f := AI.r8I) (Q := AI.pairOk) (xs := xs) fun d hd => by
    obtain ⟨zs, hz, he, hw⟩ := hx d hd
    match zs, hz with
    | [p, q], _ => exact ⟨(p, q), he, (wf_i8 (hw p (by simp))).1, (wf_i8 (hw p (by simp))).2, (wf_i8 (hw q (by simp))).1, (wf_i8 (hw q (by simp))).2⟩
  refine ⟨_, hr, l, by simp, hq, maxLen63 (by simpa using hl)⟩
abbrev skI (k : AI.Sk) : List AI.I := [.v (.int .u8 k.locs), .v (.int .u8 k.marks), .sl 2 k.rngs.length (k.rngs.map AI.r8I), .sl 5 k.lines.length (k.lines.map AI.linI)]
theorem opn_sk : Opn enc Tryd.prog W 99 fun is => ∃ k : AI.Sk, is = skI k ∧ AI.skOk k := by
  intro n cs x h
  obtain ⟨is, hr, a, b, c, d, rfl, ⟨p, rfl, hp⟩, ⟨q, rfl, hq⟩, ⟨r, rfl, h1, h2⟩, ⟨l, rfl, h3, h4⟩⟩ := opn_struct4 Tryd.underlying99 (z0 := 1) (z1 := 1) (z2 := 1) (z3 := 1) (by kernel_rfl) (by kernel_rfl) (by kernel_rfl) (by kernel_rfl) (by kernel_rfl) rfl rfl rfl rfl
    (opn_int Tryd.underlying5) (opn_int Tryd.underlying5) opn_pairs opn_lins n cs x h
  exact ⟨_, hr, ⟨p, q, r, l⟩, rfl, wf_u8 hp, wf_u8 hq, h2, h1, h4, h3⟩
/-- A sketch, by value. -/
theorem open_sk {r : Reach} {b0 : Nat} {v : Value} {d : DataW H} {p : List MemPlace} (hv : Value.okWide Tryd.prog W r b0 99 v) (h : DataW.Trod enc Tryd.prog W 0 (fun _ => true) true 99 v d p) :
    ∃ k : AI.Sk, AI.skOk k ∧ ∀ ρ sh, AI.RepD (KW W) ρ sh v (AI.skD k) := by
  obtain ⟨cs, rfl, _⟩ := okWide_struct Tryd.underlying99 hv
  obtain ⟨n, hn⟩ := h
  obtain ⟨is, hr, k, rfl, hk⟩ := opn_sk n _ _ hn
  refine ⟨k, hk, fun ρ sh => ?_⟩
  have := AI.RepD.agg (AI.RepDL.ofL (ρ := ρ) (sh := sh) hr)
  simpa [Value.cells] using this
end
end Go.Proofs.YtonnakcgopcfnaaDoor


namespace Go.AI
open Go.Proofs
set_option maxRecDepth 20000
instance staDec : DecidableEq Sta := fun a b => decidable_of_iff (a.loc = b.loc ∧ a.vals = b.vals) ⟨fun ⟨h1, h2⟩ => by cases a; cases b; cases h1; cases h2; rfl, fun h => by subst h; exact ⟨rfl, rfl⟩⟩
end Go.AI


namespace Go.AI
open Go.Proofs
set_option maxRecDepth 20000
/-- Start. -/
def begR (m : Ext) : Sta × Int := if chk m ≠ 0 then (zeroS, chk m) else (startR m, 0)
theorem begin20 (O : List Heap) (m : Ext) (hok : extOk m) : ASpec Tryd.prog 104 [extD m] O (.tup [staD (begR m).1, ii (begR m).2]) [] O := by
  have hv : chk m = 0 → m.vars.length ≤ 16 := by
    intro h
    by_cases h2 : m.vars.length ≤ 16
    · exact h2
    · exfalso
      have e : varsErr m.vars = 3 := by
        unfold varsErr
        rw [if_pos (by omega)]
      unfold chk at h
      rw [e] at h
      revert h
      repeat' split
      all_goals omega
  generalize hR : begR m = R
  unfold begR at hR
  refine aspec_intro Tk Tryd.func104 rfl Tryd.call104 Tryd.ntmps104 (Nat.le_of_ble_eq_true rfl) fun E => ?_
  refine g_run Tk Tryd.func104 ?_
  first | refine g_call Tk Tryd.func104 (check40 _ m hok) rfl rfl rfl rfl rfl ?_ | refine s_callq Tk (fun _ => check40 _ m hok) rfl rfl rfl ?_
  first | refine g_cnd Tk Tryd.func104 rfl (fun h1 => ?_) (fun h1 => ?_) | refine g_know Tk Tryd.func104 rfl (fun h1 => ?_) (fun h1 => ?_) | refine s_know Tk (fun h1 => ?_) (fun h1 => ?_)
  · have h1 := bneT h1
    rw [if_pos h1] at hR
    subst hR
    refine g_ret_co Tk (r := _) rfl rfl rfl trivial rfl rfl ?_
    repeat' (first | refine coD_tup ?_ | refine coD_agg ?_ | refine coD_i ?_ | refine CoDL.cons ?_ ?_ | exact CoDL.nil | exact coI_nil | refine coI_sl ?_ | refine CoLL.cons ?_ ?_ | exact CoLL.nil | refine CoL.cons ?_ ?_ | exact CoL.nil | exact CoI.refl _ | exact CoL.refl _ | exact CoLL.refl _ | exact CoDL.refl _ | exact CoD.refl _)
  have h1 := bneF h1
  rw [if_neg (by simpa using h1)] at hR
  subst hR
  first | refine g_call Tk Tryd.func104 (start48 _ m (hv (by simpa using h1))) rfl rfl rfl rfl rfl ?_ | refine s_callq Tk (fun _ => start48 _ m (hv (by simpa using h1))) rfl rfl rfl ?_
  refine g_ret Tk (r := .tup [staD (startR m), ii 0]) rfl rfl rfl trivial rfl rfl ?_
  rfl
end Go.AI


namespace Go.AI
open Go.Proofs
set_option maxRecDepth 20000
end Go.AI


namespace Go.AI
open Go.Proofs
set_option maxRecDepth 20000
/-- CheckState. -/
def ckS (m : Ext) (s : Sta) : Int :=
  if chk m ≠ 0 then chk m else if s.loc < 0 ∨ s.loc ≥ m.locs then 2 else if s.vals.length ≠ m.vars.length then 4 else if within m.vars s.vals = false then 2 else 0
theorem checkState28 (O : List Heap) (m : Ext) (s : Sta) (hok : extOk m) : ASpec Tryd.prog 115 [extD m, staD s] O (ii (ckS m s)) [] O := by
  generalize hR : ckS m s = R
  unfold ckS at hR
  obtain ⟨sl, sv⟩ := s
  simp only at hR
  have hw := fun O => within52 O m.vars sv hok.va
  generalize within m.vars sv = W at hw hR
  refine aspec_intro Tk Tryd.func115 rfl Tryd.call115 Tryd.ntmps115 (Nat.le_of_ble_eq_true rfl) fun E => ?_
  refine g_run Tk Tryd.func115 ?_
  first | refine g_call Tk Tryd.func115 (check40 _ m hok) rfl rfl rfl rfl rfl ?_ | refine s_callq Tk (fun _ => check40 _ m hok) rfl rfl rfl ?_
  first | refine g_cnd Tk Tryd.func115 rfl (fun h1 => ?_) (fun h1 => ?_) | refine g_know Tk Tryd.func115 rfl (fun h1 => ?_) (fun h1 => ?_) | refine s_know Tk (fun h1 => ?_) (fun h1 => ?_)
  · have h1 := bneT h1
    rw [if_pos h1] at hR
    refine g_ret Tk (r := ii (chk m)) rfl rfl rfl trivial rfl rfl ?_
    exact congrArg ii hR
  have h1 := bneF h1
  rw [if_neg (by simpa using h1)] at hR
  first | refine g_cnd Tk Tryd.func115 rfl (fun h2 => ?_) (fun h2 => ?_) | refine g_know Tk Tryd.func115 rfl (fun h2 => ?_) (fun h2 => ?_) | refine s_know Tk (fun h2 => ?_) (fun h2 => ?_)
  · have h2 : sl < 0 := by simpa using h2
    rw [if_pos (.inl h2)] at hR
    repeat (first | refine g_cnd Tk Tryd.func115 rfl (fun _ => ?_) (fun h => absurd h (by decide)) | refine g_cnd Tk Tryd.func115 rfl (fun h => absurd h (by decide)) (fun _ => ?_) | refine g_know Tk Tryd.func115 rfl (fun _ => ?_) (fun h => absurd h (by decide)) | refine g_know Tk Tryd.func115 rfl (fun h => absurd h (by decide)) (fun _ => ?_) | refine s_know Tk (fun _ => ?_) (fun h => absurd h (by decide)) | refine s_know Tk (fun h => absurd h (by decide)) (fun _ => ?_))
    refine g_ret Tk (r := ii 2) rfl rfl rfl trivial rfl rfl ?_
    exact congrArg ii hR
  have h2 : ¬ sl < 0 := by simpa using h2
  first | refine g_cnd Tk Tryd.func115 rfl (fun h3 => ?_) (fun h3 => ?_) | refine g_know Tk Tryd.func115 rfl (fun h3 => ?_) (fun h3 => ?_) | refine s_know Tk (fun h3 => ?_) (fun h3 => ?_)
  · have h3 : m.locs ≤ sl := by simpa using h3
    rw [if_pos (.inr h3)] at hR
    refine g_ret Tk (r := ii 2) rfl rfl rfl trivial rfl rfl ?_
    exact congrArg ii hR
  have h3 : ¬ m.locs ≤ sl := by simpa using h3
  rw [if_neg (by rintro (h | h); exact h2 h; exact h3 h)] at hR
  first | refine g_cnd Tk Tryd.func115 rfl (fun h4 => ?_) (fun h4 => ?_) | refine g_know Tk Tryd.func115 rfl (fun h4 => ?_) (fun h4 => ?_) | refine s_know Tk (fun h4 => ?_) (fun h4 => ?_)
  · have h4 := bneT h4
    rw [if_pos (by intro e; exact h4 (by rw [e]))] at hR
    refine g_ret Tk (r := ii 4) rfl rfl rfl trivial rfl rfl ?_
    exact congrArg ii hR
  have h4 := bneF h4
  have h4 : sv.length = m.vars.length := by
    have : ((sv.length : Nat) : Int) = m.vars.length := by simpa using h4
    omega
  rw [if_neg (by rw [h4]; simp)] at hR
  first | refine g_call Tk Tryd.func115 (hw _) rfl rfl rfl rfl rfl ?_ | refine s_callq Tk (fun _ => hw _) rfl rfl rfl ?_
  cases W with
  | false =>
    repeat (first | refine g_cnd Tk Tryd.func115 rfl (fun _ => ?_) (fun h => absurd h (by decide)) | refine g_cnd Tk Tryd.func115 rfl (fun h => absurd h (by decide)) (fun _ => ?_) | refine g_know Tk Tryd.func115 rfl (fun _ => ?_) (fun h => absurd h (by decide)) | refine g_know Tk Tryd.func115 rfl (fun h => absurd h (by decide)) (fun _ => ?_) | refine s_know Tk (fun _ => ?_) (fun h => absurd h (by decide)) | refine s_know Tk (fun h => absurd h (by decide)) (fun _ => ?_))
    refine g_ret Tk (r := ii 2) rfl rfl rfl trivial rfl rfl ?_
    exact congrArg ii hR
  | true =>
    repeat (first | refine g_cnd Tk Tryd.func115 rfl (fun _ => ?_) (fun h => absurd h (by decide)) | refine g_cnd Tk Tryd.func115 rfl (fun h => absurd h (by decide)) (fun _ => ?_) | refine g_know Tk Tryd.func115 rfl (fun _ => ?_) (fun h => absurd h (by decide)) | refine g_know Tk Tryd.func115 rfl (fun h => absurd h (by decide)) (fun _ => ?_) | refine s_know Tk (fun _ => ?_) (fun h => absurd h (by decide)) | refine s_know Tk (fun h => absurd h (by decide)) (fun _ => ?_))
    refine g_ret Tk (r := ii 0) rfl rfl rfl trivial rfl rfl ?_
    exact congrArg ii hR
end Go.AI
