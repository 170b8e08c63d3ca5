/- The layer of abstract runs, part 14. -/
import Derived.Test.YtbknncolmohdlaaDoorLayerM
set_option linter.unusedSimpArgs false
set_option linter.unusedVariables false
set_option linter.all false
namespace Go.AI
open Go.Proofs
set_option maxRecDepth 20000
/-- Right values of a sketched automaton. -/
structure valsOk (m : Ext) (l : List Int) : Prop where
  len : l.length = m.vars.length
  w : within m.vars l = true
theorem within_get : ∀ {vs : List Vr} {l : List Int}, within vs l = true → ∀ (i : Nat) (h : i < vs.length) (h' : i < l.length), vs[i].low ≤ l[i] ∧ l[i] ≤ vs[i].high
  | v :: r, x :: ys, h, i, hi, hi' => by
    simp only [within, Bool.and_eq_true, decide_eq_true_eq] at h
    cases i with
    | zero => exact ⟨h.1.1, h.1.2⟩
    | succ i => exact within_get h.2 i (by simpa using hi) (by simpa using hi')
  | [], _, _, i, hi, _ => absurd hi (Nat.not_lt_zero _)
  | _ :: _, [], _, i, _, hi => absurd hi (Nat.not_lt_zero _)
theorem within_setB : ∀ {vs : List Vr} {l : List Int} {i : Nat} {w : Int} (hi : i < vs.length), within vs l = true → within vs (l.set i w) = (decide (vs[i].low ≤ w) && decide (w ≤ vs[i].high))
  | v :: r, x :: ys, 0, w, hi, h => by
    simp only [within, Bool.and_eq_true, decide_eq_true_eq] at h
    simp only [List.set_cons_zero, within, h.2, Bool.and_true, List.getElem_cons_zero]
  | v :: r, x :: ys, i + 1, w, hi, h => by
    simp only [within, Bool.and_eq_true, decide_eq_true_eq] at h
    simp only [List.set_cons_succ, within, List.getElem_cons_succ]
    rw [within_setB (by simpa using hi) h.2]
    simp [h.1]
  | _ :: _, [], i, w, hi, h => by simp [within] at h
theorem vals_small {m : Ext} (hm : made m) {l : List Int} (h : valsOk m l) : l.any (fun n => largeB n 65536) = false := by
  rw [List.any_eq_false]
  intro x hx
  obtain ⟨i, hi, rfl⟩ := List.mem_iff_getElem.1 hx
  have hiv : i < m.vars.length := by rw [← h.len]; exact hi
  have h1 := within_get h.w i hiv hi
  have h2 := hm.v _ (List.getElem_mem hiv)
  have := h2.lo
  have := h2.hi
  simp only [largeB, Bool.or_eq_true, decide_eq_true_eq]
  omega
theorem eval_err {m : Ext} (hm : made m) {l : List Int} (h : valsOk m l) {x : Ex} {k : Int} (hx : typedX x m.vars.length k = 0) : (evalX x l).2 = 0 ∨ (evalX x l).2 = 17 := by
  have hc : (checkX x l.length).2 = 0 := by
    rw [h.len]
    unfold typedX at hx
    split at hx
    · cases hx
    · exact hx
  unfold evalX
  rw [if_neg (by rw [hc]; simp), if_neg (by rw [vals_small hm h]; simp)]
  split
  · exact .inr rfl
  · exact .inl rfl
def choD : Option Nat → Int
  | none => -1
  | some k => k
theorem step25 (O : List Heap) (m : Ext) (s : Sta) (ev : Int) (hm : made m) (hs : valsOk m s.vals) : ASpec Tryd.prog 25 [extD m, staD s, ii ev] O (.tup [staD (stepR m s ev).1, bb (stepR m s ev).2.1, ii (stepR m s ev).2.2]) [] O := by
  have hok := made_ok hm
  have hml := hm.ml
  have hvl := hm.vl
  have hlm : s.vals.length ≤ max63 := by rw [hs.len]; simp only [max63]; omega
  have hlt := @chs_lt s ev m.moves 0 none false
  have hee : ∀ {x : Ex} {k : Int}, typedX x m.vars.length k = 0 → (evalX x s.vals).2 = 0 ∨ (evalX x s.vals).2 = 17 := fun h => eval_err hm hs h
  have hw := hs.w
  have hlen := hs.len
  generalize hR : stepR m s ev = R
  unfold stepR at hR
  generalize hC : chs s ev m.moves 0 none false = C at *
  obtain ⟨sl, sv⟩ := s
  simp only at hlm hee hw hlen hR
  refine aspec_stop [11, 24] TrydT_ok Tryd.func25 rfl Tryd.call25 Tryd.ntmps25 (Nat.le_of_ble_eq_true rfl) fun E => ?_
  refine g_run TrydT_ok Tryd.func25 ?_
  refine g_loop ?_
  refine rch_loop2 (fun x : Nat × Option Nat × Bool => [(2, ii ev), (3, .own 0 3 0 0), (4, .own 0 4 0 0), (6, .own 0 6 0 0), (7, bb false), (8, ii 0), (9, ii (choD x.2.1)), (10, bb x.2.2), (11, ii x.1)]) (fun _ => [(3, .box (extC m)), (4, .box [ii sl, ints sv]), (6, .box [ii 0, .i (.v (.slice none 0 0))])]) (fun _ => O) 127
    (fun x => x.1 ≤ m.moves.length ∧ C = chs ⟨sl, sv⟩ ev (m.moves.drop x.1) x.1 x.2.1 x.2.2) (fun x => m.moves.length - x.1) (0, none, false) ⟨Nat.zero_le _, hC.symm⟩ ⟨rfl, rfl, rfl, rfl, rfl, rfl, rfl, rfl, rfl, trivial⟩ rfl ⟨rfl, rfl, rfl, trivial⟩ rfl rfl ?_
  rintro ⟨i, out, two⟩ ⟨hi, hno⟩ ih
  simp only at hi hno
  clear hC
  refine g_run TrydT_ok Tryd.func25 ?_
  first | refine g_cnd TrydT_ok Tryd.func25 rfl (fun g1 => ?_) (fun g1 => ?_) | refine g_know TrydT_ok Tryd.func25 rfl (fun g1 => ?_) (fun g1 => ?_) | refine s_know TrydT_ok (fun g1 => ?_) (fun g1 => ?_)
  · have h1 : i < m.moves.length := by simpa using g1
    clear g1
    have hd : m.moves.drop i = m.moves[i] :: m.moves.drop (i + 1) := List.drop_eq_getElem_cons h1
    have hg : (m.moves.map mvI)[(i : Int).toNat]? = some (mvI m.moves[i]) := get_mapZ h1
    have hgd := hm.mv _ (List.getElem_mem h1)
    generalize m.moves[i] = x at *
    have hxe := hee hgd.g
    have hev := fun O => evaluate51A O x.g sv hgd.gok hlm
    rw [hd] at hno
    simp only [chs] at hno
    refine g_drawn TrydT_ok Tryd.func25 mixedT rfl ?_
    first | refine g_need TrydT_ok Tryd.func25 (by exact ⟨by omega, by show (i : Int) < (m.moves.length : Int); omega⟩) ?_ | refine s_need TrydT_ok (by exact ⟨by omega, by show (i : Int) < (m.moves.length : Int); omega⟩) ?_
    first | refine g_elem TrydT_ok Tryd.func25 (hg) ?_ | refine s_elem TrydT_ok (hg) ?_
    first | refine g_cnd TrydT_ok Tryd.func25 rfl (fun h2 => ?_) (fun h2 => ?_) | refine g_know TrydT_ok Tryd.func25 rfl (fun h2 => ?_) (fun h2 => ?_) | refine s_know TrydT_ok (fun h2 => ?_) (fun h2 => ?_)
    · have h2 := bneT h2
      rw [if_pos (.inl h2)] at hno
      refine e_done TrydT_ok Tryd.func25 (by kernel_rfl) ?_
      repeat (first | refine g_cnd TrydT_ok Tryd.func25 rfl (fun _ => ?_) (fun h => absurd h (by decide)) | refine g_cnd TrydT_ok Tryd.func25 rfl (fun h => absurd h (by decide)) (fun _ => ?_) | refine g_know TrydT_ok Tryd.func25 rfl (fun _ => ?_) (fun h => absurd h (by decide)) | refine g_know TrydT_ok Tryd.func25 rfl (fun h => absurd h (by decide)) (fun _ => ?_) | refine s_know TrydT_ok (fun _ => ?_) (fun h => absurd h (by decide)) | refine s_know TrydT_ok (fun h => absurd h (by decide)) (fun _ => ?_))
      refine g_loop ?_
      exact ih (i + 1, out, two) _ _ ⟨h1, hno⟩ (by simp only; omega) ⟨rfl, rfl, rfl, rfl, rfl, rfl, rfl, rfl, congrArg ii (wsucc (n := 8) (by omega) (by decide)), trivial⟩ rfl ⟨rfl, rfl, rfl, trivial⟩ rfl rfl
    have h2 := bneF h2
    first | refine g_need TrydT_ok Tryd.func25 (by exact ⟨by omega, by show (i : Int) < (m.moves.length : Int); omega⟩) ?_ | refine s_need TrydT_ok (by exact ⟨by omega, by show (i : Int) < (m.moves.length : Int); omega⟩) ?_
    first | refine g_elem TrydT_ok Tryd.func25 (hg) ?_ | refine s_elem TrydT_ok (hg) ?_
    refine e_done TrydT_ok Tryd.func25 (by kernel_rfl) ?_
    first | refine g_cnd TrydT_ok Tryd.func25 rfl (fun h3 => ?_) (fun h3 => ?_) | refine g_know TrydT_ok Tryd.func25 rfl (fun h3 => ?_) (fun h3 => ?_) | refine s_know TrydT_ok (fun h3 => ?_) (fun h3 => ?_)
    · have h3 := bneT h3
      rw [if_pos (.inr h3)] at hno
      refine g_loop ?_
      exact ih (i + 1, out, two) _ _ ⟨h1, hno⟩ (by simp only; omega) ⟨rfl, rfl, rfl, rfl, rfl, rfl, rfl, rfl, congrArg ii (wsucc (n := 8) (by omega) (by decide)), trivial⟩ rfl ⟨rfl, rfl, rfl, trivial⟩ rfl rfl
    have h3 := bneF h3
    rw [if_neg (by rintro (h | h); exact h h2; exact h h3)] at hno
    generalize evalX x.g sv = V at *
    obtain ⟨v, ve⟩ := V
    simp only at hno hxe hev
    refine g_drawn TrydT_ok Tryd.func25 mixedT rfl ?_
    first | refine g_need TrydT_ok Tryd.func25 (by exact ⟨by omega, by show (i : Int) < (m.moves.length : Int); omega⟩) ?_ | refine s_need TrydT_ok (by exact ⟨by omega, by show (i : Int) < (m.moves.length : Int); omega⟩) ?_
    first | refine g_elem TrydT_ok Tryd.func25 (hg) ?_ | refine s_elem TrydT_ok (hg) ?_
    first | refine g_call TrydT_ok Tryd.func25 (hev _) rfl rfl rfl rfl rfl ?_ | refine s_callq TrydT_ok (fun _ => hev _) rfl rfl rfl ?_
    refine e_done TrydT_ok Tryd.func25 (by kernel_rfl) ?_
    first | refine g_cnd TrydT_ok Tryd.func25 rfl (fun h4 => ?_) (fun h4 => ?_) | refine g_know TrydT_ok Tryd.func25 rfl (fun h4 => ?_) (fun h4 => ?_) | refine s_know TrydT_ok (fun h4 => ?_) (fun h4 => ?_)
    · have h4 := bneT h4
      rw [if_pos h4] at hno
      subst hno
      simp only at hR
      subst hR
      have : ve = 17 := by rcases hxe with h | h; exact absurd h h4; exact h
      subst this
      refine g_ret_co TrydT_ok (r := _) rfl rfl rfl trivial rfl rfl ?_
      exact coZ
    have h4 := bneF h4
    rw [if_neg (by rw [h4]; simp)] at hno
    first | refine g_cnd TrydT_ok Tryd.func25 rfl (fun h5 => ?_) (fun h5 => ?_) | refine g_know TrydT_ok Tryd.func25 rfl (fun h5 => ?_) (fun h5 => ?_) | refine s_know TrydT_ok (fun h5 => ?_) (fun h5 => ?_)
    · have h5 := beqT h5
      rw [if_pos h5] at hno
      cases out with
      | none =>
        first | refine g_cnd TrydT_ok Tryd.func25 rfl (fun h6 => ?_) (fun h6 => ?_) | refine g_know TrydT_ok Tryd.func25 rfl (fun h6 => ?_) (fun h6 => ?_) | refine s_know TrydT_ok (fun h6 => ?_) (fun h6 => ?_)
        · exact absurd (show (-1 : Int) ≥ 0 from of_decide_eq_true h6) (by decide)
        refine g_loop ?_
        exact ih (i + 1, some i, two) _ _ ⟨h1, hno⟩ (by simp only; omega) ⟨rfl, rfl, rfl, rfl, rfl, rfl, rfl, rfl, congrArg ii (wsucc (n := 8) (by omega) (by decide)), trivial⟩ rfl ⟨rfl, rfl, rfl, trivial⟩ rfl rfl
      | some c =>
        first | refine g_cnd TrydT_ok Tryd.func25 rfl (fun h6 => ?_) (fun h6 => ?_) | refine g_know TrydT_ok Tryd.func25 rfl (fun h6 => ?_) (fun h6 => ?_) | refine s_know TrydT_ok (fun h6 => ?_) (fun h6 => ?_)
        · repeat (first | refine g_cnd TrydT_ok Tryd.func25 rfl (fun _ => ?_) (fun h => absurd h (by decide)) | refine g_cnd TrydT_ok Tryd.func25 rfl (fun h => absurd h (by decide)) (fun _ => ?_) | refine g_know TrydT_ok Tryd.func25 rfl (fun _ => ?_) (fun h => absurd h (by decide)) | refine g_know TrydT_ok Tryd.func25 rfl (fun h => absurd h (by decide)) (fun _ => ?_) | refine s_know TrydT_ok (fun _ => ?_) (fun h => absurd h (by decide)) | refine s_know TrydT_ok (fun h => absurd h (by decide)) (fun _ => ?_))
          refine g_loop ?_
          exact ih (i + 1, some i, true) _ _ ⟨h1, hno⟩ (by simp only; omega) ⟨rfl, rfl, rfl, rfl, rfl, rfl, rfl, rfl, congrArg ii (wsucc (n := 8) (by omega) (by decide)), trivial⟩ rfl ⟨rfl, rfl, rfl, trivial⟩ rfl rfl
        · have h6 : ¬ (c : Int) ≥ 0 := of_decide_eq_false h6
          omega
    · have h5 := beqF h5
      rw [if_neg h5] at hno
      refine g_loop ?_
      exact ih (i + 1, out, two) _ _ ⟨h1, hno⟩ (by simp only; omega) ⟨rfl, rfl, rfl, rfl, rfl, rfl, rfl, rfl, congrArg ii (wsucc (n := 8) (by omega) (by decide)), trivial⟩ rfl ⟨rfl, rfl, rfl, trivial⟩ rfl rfl
  · have h1 : m.moves.length ≤ i := by simpa using g1
    clear g1
    rw [List.drop_eq_nil_of_le h1] at hno
    simp only [chs] at hno
    clear ih
    refine g_stop ?_
    refine g_run TrydT_ok Tryd.func25 ?_
    refine g_go TrydT_ok Tryd.func25 ?_
    cases two with
    | true =>
      rw [if_pos rfl] at hno
      subst hno
      simp only at hR
      subst hR
      first | refine g_cnd TrydT_ok Tryd.func25 rfl (fun h7 => ?_) (fun h7 => ?_) | refine g_know TrydT_ok Tryd.func25 rfl (fun h7 => ?_) (fun h7 => ?_) | refine s_know TrydT_ok (fun h7 => ?_) (fun h7 => ?_)
      · refine g_ret_co TrydT_ok (r := _) rfl rfl rfl trivial rfl rfl ?_
        exact coZ
      · exact absurd h7 (by simp)
    | false =>
      rw [if_neg (by simp)] at hno
      subst hno
      simp only at hR hlt
      first | refine g_cnd TrydT_ok Tryd.func25 rfl (fun h7 => ?_) (fun h7 => ?_) | refine g_know TrydT_ok Tryd.func25 rfl (fun h7 => ?_) (fun h7 => ?_) | refine s_know TrydT_ok (fun h7 => ?_) (fun h7 => ?_)
      · exact absurd h7 (by simp)
      cases out with
      | none =>
        simp only at hR
        subst hR
        first | refine g_cnd TrydT_ok Tryd.func25 rfl (fun h8 => ?_) (fun h8 => ?_) | refine g_know TrydT_ok Tryd.func25 rfl (fun h8 => ?_) (fun h8 => ?_) | refine s_know TrydT_ok (fun h8 => ?_) (fun h8 => ?_)
        · refine g_ret_co TrydT_ok (r := _) rfl rfl rfl trivial rfl rfl ?_
          exact coZ
        · exact absurd (show (-1 : Int) < 0 by decide) (of_decide_eq_false h8)
      | some c =>
        have hc : c < m.moves.length := by have := hlt (k := c) (by simp) rfl; omega
        simp only at hR
        rw [if_neg (by simp), List.getElem?_eq_getElem hc] at hR
        simp only at hR
        have hg : (m.moves.map mvI)[(c : Int).toNat]? = some (mvI m.moves[c]) := get_mapZ hc
        have hgd := hm.mv _ (List.getElem_mem hc)
        generalize m.moves[c] = x at *
        first | refine g_cnd TrydT_ok Tryd.func25 rfl (fun h2 => ?_) (fun h2 => ?_) | refine g_know TrydT_ok Tryd.func25 rfl (fun h2 => ?_) (fun h2 => ?_) | refine s_know TrydT_ok (fun h2 => ?_) (fun h2 => ?_)
        · have h2 : (c : Int) < 0 := of_decide_eq_true h2
          omega
        have hcc : 0 ≤ (c : Int) ∧ (c : Int) < (m.moves.length : Int) := by omega
        first | refine g_need TrydT_ok Tryd.func25 (by exact hcc) ?_ | refine s_need TrydT_ok (by exact hcc) ?_
        first | refine g_elem TrydT_ok Tryd.func25 (hg) ?_ | refine s_elem TrydT_ok (hg) ?_
        refine g_drawn TrydT_ok Tryd.func25 mixedT rfl ?_
        refine s_old TrydT_ok ?_
        refine d_need TrydT_ok (by exact ⟨by show (0 + sv.length) * 8 ≤ 140737488355328; omega, by show 0 + sv.length ≤ 9223372036854775807; omega⟩) ?_
        refine d_mod TrydT_ok (p := ⟨[(84, .osl 0 84), (81, .dead)], [(84, .arr 3 1 (0 + sv.length) ([] ++ sv.map fun x => [vi x]) true)], some 81⟩) rfl rfl rfl ?_
        refine d_mod TrydT_ok (p := ⟨[], [(15, .box [ii x.to, .osl 0 84])], none⟩) rfl rfl rfl ?_
        refine d_done TrydT_ok Tryd.func25 (by kernel_rfl) (GM.h ?_)
        refine g_loop ?_
        refine rch_meet (l := [(3, .own 0 3 0 0), (4, .own 0 4 0 0), (6, .own 0 6 0 0), (7, bb false), (8, ii 0), (14, .own 0 14 0 0), (15, .own 0 15 0 0), (16, ii 0)]) (Hv := [(3, .box (extC m)), (4, .box [ii sl, ints sv]), (6, .box [ii 0, .i (.v (.slice none 0 0))]), (14, .box [ii x.frm, ii x.ev, ii x.to, ii x.g.op, ii x.g.vl, ii x.g.ix, exs x.g.args, upds x.us]), (15, .box [ii x.to, .osl 0 84]), (84, oints sv)]) (n := 127) ?_ ⟨rfl, rfl, rfl, rfl, rfl, rfl, rfl, rfl, trivial⟩ rfl ⟨rfl, rfl, rfl, rfl, rfl, by show some (Ob.arr 3 1 (0 + sv.length) ([] ++ sv.map fun x => [vi x]) true) = _; rw [Nat.zero_add, List.nil_append], trivial⟩ rfl rfl
        have hwi := fun O xs => within52 O m.vars xs hok.va
        rcases hgd.us with hu | ⟨u, hu, hu0, hu1, hu2, hu3⟩
        · rw [hu] at hR ⊢
          simp only [updR] at hR
          subst hR
          refine g_run TrydT_ok Tryd.func25 ?_
          first | refine g_cnd TrydT_ok Tryd.func25 rfl (fun h => absurd h (by decide)) (fun _ => ?_) | refine g_know TrydT_ok Tryd.func25 rfl (fun h => absurd h (by decide)) (fun _ => ?_) | refine s_know TrydT_ok (fun h => absurd h (by decide)) (fun _ => ?_)
          refine g_stop ?_
          refine rch_wk (wk_freeze 84 rfl rfl) ?_
          refine rch_wk (wk_imm rfl) ?_
          refine g_run TrydT_ok Tryd.func25 ?_
          refine g_go TrydT_ok Tryd.func25 ?_
          first | refine g_call TrydT_ok Tryd.func25 (hwi _ sv) rfl rfl rfl rfl rfl ?_ | refine s_callq TrydT_ok (fun _ => hwi _ sv) rfl rfl rfl ?_
          first | refine g_cnd TrydT_ok Tryd.func25 rfl (fun h9 => ?_) (fun h9 => ?_) | refine g_know TrydT_ok Tryd.func25 rfl (fun h9 => ?_) (fun h9 => ?_) | refine s_know TrydT_ok (fun h9 => ?_) (fun h9 => ?_)
          · have h9 := notT h9
            rw [hw] at h9
            cases h9
          refine g_ret TrydT_ok (r := .tup [staD ⟨x.to, sv⟩, bb true, ii 0]) rfl rfl rfl trivial rfl rfl ?_
          rfl
        · rw [hu] at hR ⊢
          have huv : u.v.toNat < m.vars.length := by omega
          simp only [updR] at hR
          rw [List.getElem?_eq_getElem huv] at hR
          simp only at hR
          have hue := hee hu2
          have hev := fun O => evaluate51A O u.x sv hu3 hlm
          generalize evalX u.x sv = V at *
          obtain ⟨w, we⟩ := V
          simp only at hR hue hev
          have hws := within_setB (w := w) huv hw
          refine g_run TrydT_ok Tryd.func25 ?_
          first | refine g_cnd TrydT_ok Tryd.func25 rfl (fun h8 => ?_) (fun h8 => ?_) | refine g_know TrydT_ok Tryd.func25 rfl (fun h8 => ?_) (fun h8 => ?_) | refine s_know TrydT_ok (fun h8 => ?_) (fun h8 => ?_)
          rotate_left
          · exact absurd (show (0 : Int) < (1 : Nat) by decide) (of_decide_eq_false h8)
          refine g_drawn TrydT_ok Tryd.func25 mixedT rfl ?_
          first | refine g_need TrydT_ok Tryd.func25 (by exact ⟨by decide, (by decide : (0 : Int) < (1 : Nat))⟩) ?_ | refine s_need TrydT_ok (by exact ⟨by decide, (by decide : (0 : Int) < (1 : Nat))⟩) ?_
          first | refine g_elem TrydT_ok Tryd.func25 (rfl) ?_ | refine s_elem TrydT_ok (rfl) ?_
          first | refine g_call TrydT_ok Tryd.func25 (hev _) rfl rfl rfl rfl rfl ?_ | refine s_callq TrydT_ok (fun _ => hev _) rfl rfl rfl ?_
          refine e_done TrydT_ok Tryd.func25 (by kernel_rfl) ?_
          first | refine g_cnd TrydT_ok Tryd.func25 rfl (fun h9 => ?_) (fun h9 => ?_) | refine g_know TrydT_ok Tryd.func25 rfl (fun h9 => ?_) (fun h9 => ?_) | refine s_know TrydT_ok (fun h9 => ?_) (fun h9 => ?_)
          · have h9 := bneT h9
            rw [if_pos (.inl h9)] at hR
            subst hR
            have : we = 17 := by rcases hue with h | h; exact absurd h h9; exact h
            subst this
            refine g_ret_co TrydT_ok (r := _) rfl rfl rfl trivial rfl rfl ?_
            exact coZ
          have h9 := bneF h9
          refine g_drawn TrydT_ok Tryd.func25 mixedT rfl ?_
          first | refine g_need TrydT_ok Tryd.func25 (by exact ⟨by decide, (by decide : (0 : Int) < (1 : Nat))⟩) ?_ | refine s_need TrydT_ok (by exact ⟨by decide, (by decide : (0 : Int) < (1 : Nat))⟩) ?_
          first | refine g_elem TrydT_ok Tryd.func25 (rfl) ?_ | refine s_elem TrydT_ok (rfl) ?_
          first | refine g_need TrydT_ok Tryd.func25 (by exact ⟨hu0, by show u.v < (sv.length : Int); omega⟩) ?_ | refine s_need TrydT_ok (by exact ⟨hu0, by show u.v < (sv.length : Int); omega⟩) ?_
          refine s_put TrydT_ok rfl rfl rfl ?_
          refine e_done TrydT_ok Tryd.func25 (by kernel_rfl) ?_
          refine g_loop ?_
          refine g_run TrydT_ok Tryd.func25 ?_
          first | refine g_cnd TrydT_ok Tryd.func25 rfl (fun h10 => ?_) (fun h10 => ?_) | refine g_know TrydT_ok Tryd.func25 rfl (fun h10 => ?_) (fun h10 => ?_) | refine s_know TrydT_ok (fun h10 => ?_) (fun h10 => ?_)
          · exact absurd (show (1 : Int) < (1 : Nat) from of_decide_eq_true h10) (by decide)
          refine g_stop ?_
          refine rch_meet (l := [(3, .own 0 3 0 0), (6, .own 0 6 0 0), (7, bb false), (8, ii 0), (15, .own 0 15 0 0)]) (Hv := [(3, .box (extC m)), (6, .box [ii 0, .i (.v (.slice none 0 0))]), (15, .box [ii x.to, .osl 0 84]), (84, oints (sv.set u.v.toNat w))]) (n := 127) ?_ ⟨rfl, rfl, rfl, rfl, rfl, trivial⟩ rfl ⟨rfl, rfl, rfl, ?_, trivial⟩ rfl rfl
          rotate_left
          · show some (Ob.arr 3 1 sv.length ((sv.map fun x => [vi x]).set u.v.toNat [vi w]) true) = _
            simp [List.map_set]
          refine rch_wk (wk_freeze 84 rfl rfl) ?_
          refine rch_wk (wk_imm rfl) ?_
          refine g_run TrydT_ok Tryd.func25 ?_
          refine g_go TrydT_ok Tryd.func25 ?_
          first | refine g_call TrydT_ok Tryd.func25 (hwi _ (sv.set u.v.toNat w)) rfl rfl rfl rfl rfl ?_ | refine s_callq TrydT_ok (fun _ => hwi _ (sv.set u.v.toNat w)) rfl rfl rfl ?_
          by_cases hin : w < m.vars[u.v.toNat].low ∨ w > m.vars[u.v.toNat].high
          · rw [if_pos (by rcases hin with h | h; exact .inr (.inl h); exact .inr (.inr h))] at hR
            subst hR
            first | refine g_cnd TrydT_ok Tryd.func25 rfl (fun h11 => ?_) (fun h11 => ?_) | refine g_know TrydT_ok Tryd.func25 rfl (fun h11 => ?_) (fun h11 => ?_) | refine s_know TrydT_ok (fun h11 => ?_) (fun h11 => ?_)
            · refine g_ret_co TrydT_ok (r := _) rfl rfl rfl trivial rfl rfl ?_
              exact coZ
            · have h11 := notF h11
              rw [hws, Bool.and_eq_true, decide_eq_true_eq, decide_eq_true_eq] at h11
              omega
          · rw [if_neg (by rintro (h | h); exact h h9; exact hin h)] at hR
            subst hR
            first | refine g_cnd TrydT_ok Tryd.func25 rfl (fun h11 => ?_) (fun h11 => ?_) | refine g_know TrydT_ok Tryd.func25 rfl (fun h11 => ?_) (fun h11 => ?_) | refine s_know TrydT_ok (fun h11 => ?_) (fun h11 => ?_)
            · have h11 := notT h11
              rw [hws, Bool.and_eq_false_iff, decide_eq_false_iff_not, decide_eq_false_iff_not] at h11
              omega
            · refine g_ret TrydT_ok (r := .tup [staD ⟨x.to, sv.set u.v.toNat w⟩, bb true, ii 0]) rfl rfl rfl trivial rfl rfl ?_
              rfl
end Go.AI

namespace Go.AI
open Go.Proofs
set_option maxRecDepth 20000
theorem stepR_err {m : Ext} {s : Sta} {ev : Int} (h : (stepR m s ev).2.2 ≠ 0) : (stepR m s ev).1 = zeroS ∧ (stepR m s ev).2.1 = false := by
  unfold stepR at h ⊢
  split
  · exact ⟨rfl, rfl⟩
  · split
    · exact ⟨rfl, rfl⟩
    · split
      · exact ⟨rfl, rfl⟩
      · split
        · exact ⟨rfl, rfl⟩
        · exfalso
          simp_all
theorem made_start {m : Ext} (h : made m) : begR m = (startR m, 0) := by
  unfold begR
  rw [if_neg (by rw [made_chk h]; simp)]
theorem made_right {m : Ext} (h : made m) : extRight m := chk_right (made_chk h)
theorem okS_vals {m : Ext} (hr : extRight m) {s : Sta} (h : okS m s) : valsOk m s.vals := ⟨(okS_bounds hr h).2.2.2.1, h.2⟩
theorem okS_len {m : Ext} (hr : extRight m) {s : Sta} (h : okS m s) : s.vals.length ≤ max63 := by
  have := (okS_bounds hr h).2.2.1
  simp only [max63]
  omega
abbrev skC' (k : Sk) : List D := [u8D k.locs, u8D k.marks, r8s k.rngs, linsD k.lines]
theorem runs5 {g : Nat} (hg : IsTab g) {ty : TypeId} {fr : Nat × Nat} (O : List Heap) (k : Sk) (w : List Int) (hk : skOk k) (hw : w.length ≤ max63) : ASpecT g (ptab ty fr) Tryd.prog 5 [skD k, ints w] O (bb true) [] O := by
  have hkn := fun O => known11 hg (ty := ty) (fr := fr) O
  have hmk := fun O => make16 O k hk
  have hm := make_made hk
  generalize makeR k = m at *
  have hok := made_ok hm
  have hr := made_right hm
  have hv16 : m.vars.length ≤ 16 := by have := hm.vl; omega
  have hbeg := fun O => begin20 O m hok
  simp only [made_start hm] at hbeg
  have hrun := fun O => run21 O m w hok hw
  have hst := fun O => start23 O m hv16
  have hsok := start_ok hr
  have hsame := fun O => same22 O (startR m) (startR m) (okS_len hr hsok)
  have hR : runR m w = if w.any (fun ev => decide (ev ∉ m.alpha)) then (zeroS, 0, 9) else runL m w (startR m) 0 := by
    unfold runR
    rw [if_neg (by rw [made_chk hm]; simp)]
  generalize runR m w = R at *
  refine aspecT_stop [8, 14, 21] TrydT_ok Tryd.func5 rfl Tryd.call5 Tryd.ntmps5 (Nat.le_of_ble_eq_true rfl) fun E hE => ?_
  refine g_run TrydT_ok Tryd.func5 ?_
  refine g_callT TrydT_ok Tryd.func5 hE (hkn _) rfl rfl rfl rfl rfl rfl ?_
  repeat (first | refine g_cnd TrydT_ok Tryd.func5 rfl (fun _ => ?_) (fun h => absurd h (by decide)) | refine g_cnd TrydT_ok Tryd.func5 rfl (fun h => absurd h (by decide)) (fun _ => ?_) | refine g_know TrydT_ok Tryd.func5 rfl (fun _ => ?_) (fun h => absurd h (by decide)) | refine g_know TrydT_ok Tryd.func5 rfl (fun h => absurd h (by decide)) (fun _ => ?_) | refine s_know TrydT_ok (fun _ => ?_) (fun h => absurd h (by decide)) | refine s_know TrydT_ok (fun h => absurd h (by decide)) (fun _ => ?_))
  first | refine g_cnd TrydT_ok Tryd.func5 rfl (fun h1 => ?_) (fun h1 => ?_) | refine g_know TrydT_ok Tryd.func5 rfl (fun h1 => ?_) (fun h1 => ?_) | refine s_know TrydT_ok (fun h1 => ?_) (fun h1 => ?_)
  · refine g_callT TrydT_ok Tryd.func5 hE (hkn _) rfl rfl rfl rfl rfl rfl ?_
    refine g_ret TrydT_ok (r := bb true) rfl rfl rfl trivial rfl rfl ?_
    rfl
  have h1 : w.length ≤ 10 := by have := of_decide_eq_false h1; omega
  first | refine g_call TrydT_ok Tryd.func5 (hmk _) rfl rfl rfl rfl rfl ?_ | refine s_callq TrydT_ok (fun _ => hmk _) rfl rfl rfl ?_
  first | refine g_call TrydT_ok Tryd.func5 (hbeg _) rfl rfl rfl rfl rfl ?_ | refine s_callq TrydT_ok (fun _ => hbeg _) rfl rfl rfl ?_
  first | refine g_call TrydT_ok Tryd.func5 (hrun _) rfl rfl rfl rfl rfl ?_ | refine s_callq TrydT_ok (fun _ => hrun _) rfl rfl rfl ?_
  refine g_drawn TrydT_ok Tryd.func5 mixedT rfl ?_
  first | refine g_call TrydT_ok Tryd.func5 (hst _) rfl rfl rfl rfl rfl ?_ | refine s_callq TrydT_ok (fun _ => hst _) rfl rfl rfl ?_
  first | refine g_call TrydT_ok Tryd.func5 (hsame _) rfl rfl rfl rfl rfl ?_ | refine s_callq TrydT_ok (fun _ => hsame _) rfl rfl rfl ?_
  first | refine g_cnd TrydT_ok Tryd.func5 rfl (fun h2 => ?_) (fun h2 => ?_) | refine g_know TrydT_ok Tryd.func5 rfl (fun h2 => ?_) (fun h2 => ?_) | refine s_know TrydT_ok (fun h2 => ?_) (fun h2 => ?_)
  · simp at h2
  refine e_done TrydT_ok Tryd.func5 (by kernel_rfl) ?_
  repeat (first | refine g_cnd TrydT_ok Tryd.func5 rfl (fun _ => ?_) (fun h => absurd h (by decide)) | refine g_cnd TrydT_ok Tryd.func5 rfl (fun h => absurd h (by decide)) (fun _ => ?_) | refine g_know TrydT_ok Tryd.func5 rfl (fun _ => ?_) (fun h => absurd h (by decide)) | refine g_know TrydT_ok Tryd.func5 rfl (fun h => absurd h (by decide)) (fun _ => ?_) | refine s_know TrydT_ok (fun _ => ?_) (fun h => absurd h (by decide)) | refine s_know TrydT_ok (fun h => absurd h (by decide)) (fun _ => ?_))
  refine g_stop ?_
  refine rch_meet (l := [(1, ints w), (5, .own 0 5 0 0), (8, .own 0 8 0 0), (9, ii R.2.1), (10, ii R.2.2)]) (Hv := [(5, .box (extC m)), (8, .box [ii R.1.loc, ints R.1.vals])]) (n := 117) ?_ ⟨rfl, rfl, rfl, rfl, rfl, trivial⟩ rfl ⟨rfl, rfl, trivial⟩ rfl rfl
  clear hsame h2 hmk hbeg hrun
  apply join_q (P := fun x : Int × Sta × Nat => (R = if x.1 ≠ 0 then (zeroS, 0, x.1) else (x.2.1, (x.2.2 : Int), 0)) ∧ x.2.1.vals.length ≤ max63) (s6 := fun x : Int × Sta × Nat => { σ := [(8, .own 0 8 0 0), (9, ii R.2.1), (10, ii R.2.2), (11, ii x.1), (13, .own 0 13 0 0), (14, ii x.2.2)], S := [(8, .box [ii R.1.loc, ints R.1.vals]), (13, .box [ii x.2.1.loc, ints x.2.1.vals])] :: O, n := 117 })
  · intro J
    refine g_run TrydT_ok Tryd.func5 ?_
    refine g_go TrydT_ok Tryd.func5 ?_
    refine g_loop ?_
    refine rch_loop2 (fun x : Nat × Int => [(1, ints w), (5, .own 0 5 0 0), (8, .own 0 8 0 0), (9, ii R.2.1), (10, ii R.2.2), (11, ii x.2), (12, ii x.1)]) (fun _ => [(5, .box (extC m)), (8, .box [ii R.1.loc, ints R.1.vals])]) (fun _ => O) 117
      (fun x => x.1 ≤ w.length ∧ x.2 = if (w.take x.1).any (fun ev => decide (ev ∉ m.alpha)) then 9 else 0) (fun x => w.length - x.1) (0, 0) ⟨Nat.zero_le _, rfl⟩ ⟨rfl, rfl, rfl, rfl, rfl, rfl, rfl, trivial⟩ rfl ⟨rfl, rfl, trivial⟩ rfl rfl ?_
    rintro ⟨i, e⟩ ⟨hi, he⟩ ih
    simp only at hi he
    refine g_run TrydT_ok Tryd.func5 ?_
    first | refine g_cnd TrydT_ok Tryd.func5 rfl (fun g1 => ?_) (fun g1 => ?_) | refine g_know TrydT_ok Tryd.func5 rfl (fun g1 => ?_) (fun g1 => ?_) | refine s_know TrydT_ok (fun g1 => ?_) (fun g1 => ?_)
    · have h1 : i < w.length := by simpa using g1
      clear g1
      have hg : (w.map fun x => [vi x])[(i : Int).toNat]? = some [vi w[i]] := get_mapZ (f := fun x => [vi x]) h1
      have ht : w.take (i + 1) = w.take i ++ [w[i]] := by rw [List.take_add_one, List.getElem?_eq_getElem h1]; rfl
      generalize w[i] = x at *
      refine g_drawn TrydT_ok Tryd.func5 mixedT rfl ?_
      first | refine g_need TrydT_ok Tryd.func5 (by exact ⟨by omega, by show (i : Int) < (w.length : Int); omega⟩) ?_ | refine s_need TrydT_ok (by exact ⟨by omega, by show (i : Int) < (w.length : Int); omega⟩) ?_
      first | refine g_elem TrydT_ok Tryd.func5 (hg) ?_ | refine s_elem TrydT_ok (hg) ?_
      first | refine g_call TrydT_ok Tryd.func5 (has24 _ m.alpha x hok.al) rfl rfl rfl rfl rfl ?_ | refine s_callq TrydT_ok (fun _ => has24 _ m.alpha x hok.al) rfl rfl rfl ?_
      refine e_done TrydT_ok Tryd.func5 (by kernel_rfl) ?_
      first | refine g_cnd TrydT_ok Tryd.func5 rfl (fun h2 => ?_) (fun h2 => ?_) | refine g_know TrydT_ok Tryd.func5 rfl (fun h2 => ?_) (fun h2 => ?_) | refine s_know TrydT_ok (fun h2 => ?_) (fun h2 => ?_)
      · have h2 : x ∉ m.alpha := by simpa using h2
        refine g_loop ?_
        refine ih (i + 1, 9) _ _ ⟨h1, ?_⟩ (by simp only; omega) ⟨rfl, rfl, rfl, rfl, rfl, rfl, congrArg ii (wsucc h1 hw), trivial⟩ rfl ⟨rfl, rfl, trivial⟩ rfl rfl
        rw [ht, List.any_append]
        simp [h2]
      · have h2 : x ∈ m.alpha := by simpa using h2
        refine g_loop ?_
        refine ih (i + 1, e) _ _ ⟨h1, ?_⟩ (by simp only; omega) ⟨rfl, rfl, rfl, rfl, rfl, rfl, congrArg ii (wsucc h1 hw), trivial⟩ rfl ⟨rfl, rfl, trivial⟩ rfl rfl
        rw [ht, List.any_append, he]
        simp [h2]
    · have h1 : w.length ≤ i := by simpa using g1
      clear g1 ih
      rw [List.take_of_length_le h1] at he
      refine g_stop ?_
      refine rch_meet (l := [(1, ints w), (5, .own 0 5 0 0), (8, .own 0 8 0 0), (9, ii R.2.1), (10, ii R.2.2), (11, ii e)]) (Hv := [(5, .box (extC m)), (8, .box [ii R.1.loc, ints R.1.vals])]) (n := 117) ?_ ⟨rfl, rfl, rfl, rfl, rfl, rfl, trivial⟩ rfl ⟨rfl, rfl, trivial⟩ rfl rfl
      refine g_run TrydT_ok Tryd.func5 ?_
      refine g_go TrydT_ok Tryd.func5 ?_
      first | refine g_call TrydT_ok Tryd.func5 (hst _) rfl rfl rfl rfl rfl ?_ | refine s_callq TrydT_ok (fun _ => hst _) rfl rfl rfl ?_
      refine g_loop ?_
      by_cases hany : w.any (fun ev => decide (ev ∉ m.alpha)) = true
      · rw [if_pos hany] at hR he
        subst he
        refine g_run TrydT_ok Tryd.func5 ?_
        first | refine g_cnd TrydT_ok Tryd.func5 rfl (fun h2 => ?_) (fun h2 => ?_) | refine g_know TrydT_ok Tryd.func5 rfl (fun h2 => ?_) (fun h2 => ?_) | refine s_know TrydT_ok (fun h2 => ?_) (fun h2 => ?_)
        · repeat (first | refine g_cnd TrydT_ok Tryd.func5 rfl (fun _ => ?_) (fun h => absurd h (by decide)) | refine g_cnd TrydT_ok Tryd.func5 rfl (fun h => absurd h (by decide)) (fun _ => ?_) | refine g_know TrydT_ok Tryd.func5 rfl (fun _ => ?_) (fun h => absurd h (by decide)) | refine g_know TrydT_ok Tryd.func5 rfl (fun h => absurd h (by decide)) (fun _ => ?_) | refine s_know TrydT_ok (fun _ => ?_) (fun h => absurd h (by decide)) | refine s_know TrydT_ok (fun h => absurd h (by decide)) (fun _ => ?_))
          refine g_stop ?_
          exact rch_meet (J (9, startR m, 0) ⟨by rw [hR]; rfl, okS_len hr hsok⟩) ⟨rfl, rfl, rfl, rfl, rfl, rfl, trivial⟩ rfl ⟨rfl, rfl, trivial⟩ rfl rfl
        · repeat (first | refine g_cnd TrydT_ok Tryd.func5 rfl (fun _ => ?_) (fun h => absurd h (by decide)) | refine g_cnd TrydT_ok Tryd.func5 rfl (fun h => absurd h (by decide)) (fun _ => ?_) | refine g_know TrydT_ok Tryd.func5 rfl (fun _ => ?_) (fun h => absurd h (by decide)) | refine g_know TrydT_ok Tryd.func5 rfl (fun h => absurd h (by decide)) (fun _ => ?_) | refine s_know TrydT_ok (fun _ => ?_) (fun h => absurd h (by decide)) | refine s_know TrydT_ok (fun h => absurd h (by decide)) (fun _ => ?_))
          refine g_stop ?_
          exact rch_meet (J (9, startR m, 0) ⟨by rw [hR]; rfl, okS_len hr hsok⟩) ⟨rfl, rfl, rfl, rfl, rfl, rfl, trivial⟩ rfl ⟨rfl, rfl, trivial⟩ rfl rfl
      · rw [if_neg hany] at hR he
        subst he
        refine rch_loop2 (fun x : Nat × Sta => [(1, ints w), (5, .own 0 5 0 0), (8, .own 0 8 0 0), (9, ii R.2.1), (10, ii R.2.2), (11, ii 0), (13, .own 0 13 0 0), (14, ii x.1)]) (fun x => [(5, .box (extC m)), (8, .box [ii R.1.loc, ints R.1.vals]), (13, .box [ii x.2.loc, ints x.2.vals])]) (fun _ => O) 117
          (fun x => x.1 ≤ w.length ∧ okS m x.2 ∧ R = runL m (w.drop x.1) x.2 x.1) (fun x => w.length - x.1) (0, startR m) ⟨Nat.zero_le _, hsok, hR⟩ ⟨rfl, rfl, rfl, rfl, rfl, rfl, rfl, rfl, trivial⟩ rfl ⟨rfl, rfl, rfl, trivial⟩ rfl rfl ?_
        rintro ⟨n, s⟩ ⟨hn, hs, hno⟩ ih
        simp only at hn hs hno
        clear hR
        refine g_run TrydT_ok Tryd.func5 ?_
        first | refine g_cnd TrydT_ok Tryd.func5 rfl (fun g2 => ?_) (fun g2 => ?_) | refine g_know TrydT_ok Tryd.func5 rfl (fun g2 => ?_) (fun g2 => ?_) | refine s_know TrydT_ok (fun g2 => ?_) (fun g2 => ?_)
        · have h2 : n < w.length := by simpa using g2
          clear g2
          have hd : w.drop n = w[n] :: w.drop (n + 1) := List.drop_eq_getElem_cons h2
          have hg : (w.map fun x => [vi x])[(n : Int).toNat]? = some [vi w[n]] := get_mapZ (f := fun x => [vi x]) h2
          generalize w[n] = ev at hd hg
          rw [hd] at hno
          simp only [runL] at hno
          have hstep := fun O => step25 O m s ev hm (okS_vals hr hs)
          have hso := @step_ok m s ev hr hs
          have hse := @stepR_err m s ev
          generalize stepR m s ev = q at *
          obtain ⟨qs, qp, qe⟩ := q
          simp only at hstep hso hse hno
          repeat (first | refine g_cnd TrydT_ok Tryd.func5 rfl (fun _ => ?_) (fun h => absurd h (by decide)) | refine g_cnd TrydT_ok Tryd.func5 rfl (fun h => absurd h (by decide)) (fun _ => ?_) | refine g_know TrydT_ok Tryd.func5 rfl (fun _ => ?_) (fun h => absurd h (by decide)) | refine g_know TrydT_ok Tryd.func5 rfl (fun h => absurd h (by decide)) (fun _ => ?_) | refine s_know TrydT_ok (fun _ => ?_) (fun h => absurd h (by decide)) | refine s_know TrydT_ok (fun h => absurd h (by decide)) (fun _ => ?_))
          refine g_drawn TrydT_ok Tryd.func5 mixedT rfl ?_
          first | refine g_need TrydT_ok Tryd.func5 (by exact ⟨by omega, by show (n : Int) < (w.length : Int); omega⟩) ?_ | refine s_need TrydT_ok (by exact ⟨by omega, by show (n : Int) < (w.length : Int); omega⟩) ?_
          first | refine g_elem TrydT_ok Tryd.func5 (hg) ?_ | refine s_elem TrydT_ok (hg) ?_
          first | refine g_call TrydT_ok Tryd.func5 (hstep _) rfl rfl rfl rfl rfl ?_ | refine s_callq TrydT_ok (fun _ => hstep _) rfl rfl rfl ?_
          refine s_put TrydT_ok rfl rfl rfl ?_
          refine e_done TrydT_ok Tryd.func5 (by kernel_rfl) ?_
          first | refine g_cnd TrydT_ok Tryd.func5 rfl (fun h3 => ?_) (fun h3 => ?_) | refine g_know TrydT_ok Tryd.func5 rfl (fun h3 => ?_) (fun h3 => ?_) | refine s_know TrydT_ok (fun h3 => ?_) (fun h3 => ?_)
          · have h3 := bneT h3
            rw [if_pos h3] at hno
            have h4 := (hse h3).2
            subst h4
            first | refine g_cnd TrydT_ok Tryd.func5 rfl (fun h5 => ?_) (fun h5 => ?_) | refine g_know TrydT_ok Tryd.func5 rfl (fun h5 => ?_) (fun h5 => ?_) | refine s_know TrydT_ok (fun h5 => ?_) (fun h5 => ?_)
            · refine g_stop ?_
              exact rch_meet (J (qe, s, n) ⟨by rw [hno, if_pos h3], okS_len hr hs⟩) ⟨rfl, rfl, rfl, rfl, rfl, rfl, trivial⟩ rfl ⟨rfl, rfl, trivial⟩ rfl rfl
            · exact absurd h5 (by simp)
          · have h3 := bneF h3
            rw [if_neg (by simpa using h3)] at hno
            cases qp with
            | false =>
              rw [if_pos rfl] at hno
              first | refine g_cnd TrydT_ok Tryd.func5 rfl (fun h5 => ?_) (fun h5 => ?_) | refine g_know TrydT_ok Tryd.func5 rfl (fun h5 => ?_) (fun h5 => ?_) | refine s_know TrydT_ok (fun h5 => ?_) (fun h5 => ?_)
              · refine g_stop ?_
                exact rch_meet (J (0, s, n) ⟨hno, okS_len hr hs⟩) ⟨rfl, rfl, rfl, rfl, rfl, rfl, trivial⟩ rfl ⟨rfl, rfl, trivial⟩ rfl rfl
              · exact absurd h5 (by simp)
            | true =>
              rw [if_neg (by simp)] at hno
              first | refine g_cnd TrydT_ok Tryd.func5 rfl (fun h5 => ?_) (fun h5 => ?_) | refine g_know TrydT_ok Tryd.func5 rfl (fun h5 => ?_) (fun h5 => ?_) | refine s_know TrydT_ok (fun h5 => ?_) (fun h5 => ?_)
              · exact absurd h5 (by simp)
              · refine g_loop ?_
                refine ih (n + 1, qs) _ _ ⟨h2, hso rfl, ?_⟩ (by simp only; omega) ⟨rfl, rfl, rfl, rfl, rfl, rfl, rfl, congrArg ii (wsucc h2 hw), trivial⟩ rfl ⟨rfl, rfl, rfl, trivial⟩ rfl rfl
                rw [hno]
                rfl
        · have h2 : w.length ≤ n := by simpa using g2
          clear g2
          rw [List.drop_eq_nil_of_le h2] at hno
          simp only [runL] at hno
          repeat (first | refine g_cnd TrydT_ok Tryd.func5 rfl (fun _ => ?_) (fun h => absurd h (by decide)) | refine g_cnd TrydT_ok Tryd.func5 rfl (fun h => absurd h (by decide)) (fun _ => ?_) | refine g_know TrydT_ok Tryd.func5 rfl (fun _ => ?_) (fun h => absurd h (by decide)) | refine g_know TrydT_ok Tryd.func5 rfl (fun h => absurd h (by decide)) (fun _ => ?_) | refine s_know TrydT_ok (fun _ => ?_) (fun h => absurd h (by decide)) | refine s_know TrydT_ok (fun h => absurd h (by decide)) (fun _ => ?_))
          refine g_stop ?_
          exact rch_meet (J (0, s, n) ⟨hno, okS_len hr hs⟩) ⟨rfl, rfl, rfl, rfl, rfl, rfl, trivial⟩ rfl ⟨rfl, rfl, trivial⟩ rfl rfl
  · rintro ⟨e, s, n⟩ ⟨hP, hsl⟩
    simp only at hP hsl
    by_cases h1 : e ≠ 0
    · rw [if_pos h1] at hP
      subst hP
      refine g_run TrydT_ok Tryd.func5 ?_
      refine g_go TrydT_ok Tryd.func5 ?_
      first | refine g_cnd TrydT_ok Tryd.func5 rfl (fun h2 => ?_) (fun h2 => ?_) | refine g_know TrydT_ok Tryd.func5 rfl (fun h2 => ?_) (fun h2 => ?_) | refine s_know TrydT_ok (fun h2 => ?_) (fun h2 => ?_)
      · have hnone := fun O => none26 O zeroS (by decide)
        first | refine g_call TrydT_ok Tryd.func5 (hnone _) rfl rfl rfl rfl rfl ?_ | refine s_callq TrydT_ok (fun _ => hnone _) rfl rfl rfl ?_
        repeat (first | refine g_cnd TrydT_ok Tryd.func5 rfl (fun _ => ?_) (fun h => absurd h (by decide)) | refine g_cnd TrydT_ok Tryd.func5 rfl (fun h => absurd h (by decide)) (fun _ => ?_) | refine g_know TrydT_ok Tryd.func5 rfl (fun _ => ?_) (fun h => absurd h (by decide)) | refine g_know TrydT_ok Tryd.func5 rfl (fun h => absurd h (by decide)) (fun _ => ?_) | refine s_know TrydT_ok (fun _ => ?_) (fun h => absurd h (by decide)) | refine s_know TrydT_ok (fun h => absurd h (by decide)) (fun _ => ?_))
        first | refine g_cnd TrydT_ok Tryd.func5 rfl (fun h3 => ?_) (fun h3 => ?_) | refine g_know TrydT_ok Tryd.func5 rfl (fun h3 => ?_) (fun h3 => ?_) | refine s_know TrydT_ok (fun h3 => ?_) (fun h3 => ?_)
        rotate_left
        · exact absurd h3 (by simp)
        refine g_ret TrydT_ok (r := bb (e == e)) rfl rfl rfl trivial rfl rfl ?_
        simp
      · exact absurd (bneF h2) h1
    · rw [if_neg h1] at hP
      subst hP
      refine g_run TrydT_ok Tryd.func5 ?_
      refine g_go TrydT_ok Tryd.func5 ?_
      first | refine g_cnd TrydT_ok Tryd.func5 rfl (fun h2 => ?_) (fun h2 => ?_) | refine g_know TrydT_ok Tryd.func5 rfl (fun h2 => ?_) (fun h2 => ?_) | refine s_know TrydT_ok (fun h2 => ?_) (fun h2 => ?_)
      · exact absurd (bneT h2) h1
      · have hs2 := fun O => same22 O s s hsl
        first | refine g_call TrydT_ok Tryd.func5 (hs2 _) rfl rfl rfl rfl rfl ?_ | refine s_callq TrydT_ok (fun _ => hs2 _) rfl rfl rfl ?_
        first | refine g_cnd TrydT_ok Tryd.func5 rfl (fun h3 => ?_) (fun h3 => ?_) | refine g_know TrydT_ok Tryd.func5 rfl (fun h3 => ?_) (fun h3 => ?_) | refine s_know TrydT_ok (fun h3 => ?_) (fun h3 => ?_)
        · first | refine g_cnd TrydT_ok Tryd.func5 rfl (fun h4 => ?_) (fun h4 => ?_) | refine g_know TrydT_ok Tryd.func5 rfl (fun h4 => ?_) (fun h4 => ?_) | refine s_know TrydT_ok (fun h4 => ?_) (fun h4 => ?_)
          · refine g_ret TrydT_ok (r := bb true) rfl rfl rfl trivial rfl rfl ?_
            rfl
          · exact absurd h4 (by simp)
        · exact absurd h3 (by simp)
end Go.AI

namespace Go.AI
open Go.Proofs
set_option maxRecDepth 20000
theorem checkSet_aux {n : Int} : ∀ {l : List Int} {y : Int}, checkSet n l (some y) = 0 → y + 1 ≤ n → (l.length : Int) ≤ n - 1 - y
  | [], y, _, h => by simp only [List.length_nil]; omega
  | x :: r, y, h, hy => by
    simp only [checkSet] at h
    by_cases h1 : x < 0 ∨ x ≥ n
    · rw [if_pos h1] at h; exact absurd h (by decide)
    rw [if_neg h1] at h
    by_cases h2 : (some y).any (x ≤ ·) = true
    · rw [if_pos h2] at h; exact absurd h (by decide)
    rw [if_neg h2] at h
    have hxy : y < x := by simpa using h2
    have := checkSet_aux h (by omega)
    simp only [List.length_cons]
    omega
theorem checkSet_len {n : Int} (hn : 0 ≤ n) : ∀ {l : List Int}, checkSet n l none = 0 → (l.length : Int) ≤ n
  | [], _ => by simpa using hn
  | x :: r, h => by
    simp only [checkSet] at h
    by_cases h1 : x < 0 ∨ x ≥ n
    · rw [if_pos h1] at h; exact absurd h (by decide)
    rw [if_neg h1] at h
    have h' : checkSet n r (some x) = 0 := by simpa using h
    have := checkSet_aux h' (by omega)
    simp only [List.length_cons]
    omega
def enL (m : Ext) (s : Sta) : List Int → List Int → List Int × Int
  | [], acc => (acc, 0)
  | ev :: r, acc => if (stepR m s ev).2.2 ≠ 0 then ([], (stepR m s ev).2.2) else enL m s r (bif (stepR m s ev).2.1 then acc ++ [ev] else acc)
/-- Enabled. -/
def enR (m : Ext) (s : Sta) : List Int × Int := if ckS m s ≠ 0 then ([], ckS m s) else enL m s m.alpha []
theorem enabled27 (O : List Heap) (m : Ext) (s : Sta) (hok : extOk m) : ASpec Tryd.prog 27 [extD m, staD s] O (.tup [ints (enR m s).1, ii (enR m s).2]) [] O := by
  have hal := hok.al
  have hck := fun O => checkState28 O m s hok
  have hvalid : ckS m s = 0 → extRight m ∧ s.vals.length = m.vars.length := by
    intro h
    unfold ckS at h
    by_cases h1 : chk m ≠ 0
    · rw [if_pos h1] at h; exact absurd h h1
    have h1 : chk m = 0 := by simpa using h1
    refine ⟨chk_right h1, ?_⟩
    by_cases h2 : s.vals.length = m.vars.length
    · exact h2
    · rw [if_neg (by rw [h1]; simp)] at h
      split at h
      · cases h
      · exact absurd h (by decide)
  generalize hR : enR m s = R
  unfold enR at hR
  generalize ckS m s = c at hck hvalid hR
  obtain ⟨sl, sv⟩ := s
  refine aspec_intro TrydT_ok Tryd.func27 rfl Tryd.call27 Tryd.ntmps27 (Nat.le_of_ble_eq_true rfl) fun E => ?_
  refine g_run TrydT_ok Tryd.func27 ?_
  first | refine g_call TrydT_ok Tryd.func27 (hck _) rfl rfl rfl rfl rfl ?_ | refine s_callq TrydT_ok (fun _ => hck _) rfl rfl rfl ?_
  first | refine g_cnd TrydT_ok Tryd.func27 rfl (fun h1 => ?_) (fun h1 => ?_) | refine g_know TrydT_ok Tryd.func27 rfl (fun h1 => ?_) (fun h1 => ?_) | refine s_know TrydT_ok (fun h1 => ?_) (fun h1 => ?_)
  · have h1 := bneT h1
    rw [if_pos h1] at hR
    subst hR
    refine g_ret_co TrydT_ok (r := .tup [.i (.v (.slice none 0 0)), ii c]) rfl rfl rfl trivial rfl rfl ?_
    exact coD_tup (.cons (coD_i coI_nil) (CoDL.refl _))
  have h1 := bneF h1
  have h1 : c = 0 := by simpa using h1
  rw [if_neg (by rw [h1]; simp)] at hR
  obtain ⟨hr, hl⟩ := hvalid h1
  refine g_loop ?_
  refine rch_wk (wk_nil 7 41 3 1 rfl rfl rfl) ?_
  refine rch_loop2 (fun x : Nat × List Int => [(2, .own 0 2 0 0), (3, .own 0 3 0 0), (7, .osl 0 41), (20, ints m.alpha), (21, ii m.alpha.length), (22, ii x.1)]) (fun x => [(2, .box (extC m)), (3, .box [ii sl, ints sv]), (41, oints x.2)]) (fun _ => O) 44
    (fun x => x.1 ≤ m.alpha.length ∧ x.2.length ≤ x.1 ∧ enL m ⟨sl, sv⟩ (m.alpha.drop x.1) x.2 = R) (fun x => m.alpha.length - x.1) (0, []) ⟨Nat.zero_le _, Nat.le_refl _, hR⟩ ⟨rfl, rfl, rfl, rfl, rfl, rfl, trivial⟩ rfl ⟨rfl, rfl, rfl, trivial⟩ rfl rfl ?_
  rintro ⟨i, l⟩ ⟨hi, hll, hno⟩ ih
  clear hR
  simp only at hi hll hno
  refine g_run TrydT_ok Tryd.func27 ?_
  first | refine g_cnd TrydT_ok Tryd.func27 rfl (fun h2 => ?_) (fun h2 => ?_) | refine g_know TrydT_ok Tryd.func27 rfl (fun h2 => ?_) (fun h2 => ?_) | refine s_know TrydT_ok (fun h2 => ?_) (fun h2 => ?_)
  · have h2 : i < m.alpha.length := by simpa using h2
    have hd : m.alpha.drop i = m.alpha[i] :: m.alpha.drop (i + 1) := List.drop_eq_getElem_cons h2
    have hg : (m.alpha.map fun x => [vi x])[(i : Int).toNat]? = some [vi m.alpha[i]] := get_mapZ (f := fun x => [vi x]) h2
    generalize m.alpha[i] = ev at hd hg
    rw [hd] at hno
    simp only [enL] at hno
    have hstep := fun O => step50 O m ⟨sl, sv⟩ ev hok hr hl
    generalize stepR m ⟨sl, sv⟩ ev = n at *
    obtain ⟨⟨nl, nv⟩, np, ne⟩ := n
    simp only at hno hstep
    first | refine g_need TrydT_ok Tryd.func27 (by exact ⟨by omega, by show (i : Int) < (m.alpha.length : Int); omega⟩) ?_ | refine s_need TrydT_ok (by exact ⟨by omega, by show (i : Int) < (m.alpha.length : Int); omega⟩) ?_
    first | refine g_elem TrydT_ok Tryd.func27 (hg) ?_ | refine s_elem TrydT_ok (hg) ?_
    first | refine g_call TrydT_ok Tryd.func27 (hstep _) rfl rfl rfl rfl rfl ?_ | refine s_callq TrydT_ok (fun _ => hstep _) rfl rfl rfl ?_
    first | refine g_cnd TrydT_ok Tryd.func27 rfl (fun h3 => ?_) (fun h3 => ?_) | refine g_know TrydT_ok Tryd.func27 rfl (fun h3 => ?_) (fun h3 => ?_) | refine s_know TrydT_ok (fun h3 => ?_) (fun h3 => ?_)
    · have h3 := bneT h3
      rw [if_pos h3] at hno
      subst hno
      refine g_ret_co TrydT_ok (r := .tup [.i (.v (.slice none 0 0)), ii ne]) rfl rfl rfl trivial rfl rfl ?_
      exact coD_tup (.cons (coD_i coI_nil) (CoDL.refl _))
    have h3 := bneF h3
    rw [if_neg (by simpa using h3)] at hno
    first | refine g_cnd TrydT_ok Tryd.func27 rfl (fun h4 => ?_) (fun h4 => ?_) | refine g_know TrydT_ok Tryd.func27 rfl (fun h4 => ?_) (fun h4 => ?_) | refine s_know TrydT_ok (fun h4 => ?_) (fun h4 => ?_)
    · subst h4
      simp only [max63] at hal
      first | refine g_need TrydT_ok Tryd.func27 (by exact ⟨by show (l.length + 1) * 8 ≤ 140737488355328; have := checkSet_len (by decide) hr.alpha; omega, by show l.length + 1 ≤ 9223372036854775807; omega⟩) ?_ | refine s_need TrydT_ok (by exact ⟨by show (l.length + 1) * 8 ≤ 140737488355328; have := checkSet_len (by decide) hr.alpha; omega, by show l.length + 1 ≤ 9223372036854775807; omega⟩) ?_
      refine g_loop ?_
      refine ih (i + 1, l ++ [ev]) _ _ ⟨h2, by simp only [List.length_append, List.length_singleton]; omega, hno⟩ (by simp only; omega) ⟨rfl, rfl, rfl, rfl, rfl, congrArg ii (wsucc h2 hok.al), trivial⟩ rfl ⟨rfl, rfl, congrArg some (oints_app l ev), trivial⟩ rfl rfl
    · subst h4
      refine g_loop ?_
      refine ih (i + 1, l) _ _ ⟨h2, by simp only; omega, hno⟩ (by simp only; omega) ⟨rfl, rfl, rfl, rfl, rfl, congrArg ii (wsucc h2 hal), trivial⟩ rfl ⟨rfl, rfl, rfl, trivial⟩ rfl rfl
  · have h2 : m.alpha.length ≤ i := by simpa using h2
    rw [List.drop_eq_nil_of_le h2] at hno
    simp only [enL] at hno
    subst hno
    refine g_rwk (wk_freeze 41 rfl rfl) ?_
    refine g_ret TrydT_ok (r := .tup [ints l, ii 0]) rfl rfl rfl trivial rfl rfl ?_
    rfl
end Go.AI

namespace Go.AI
open Go.Proofs
set_option maxRecDepth 20000
theorem stepR_len {m : Ext} {s : Sta} {ev : Int} (hr : extRight m) (h : okS m s) : (stepR m s ev).1.vals.length ≤ max63 := by
  cases hp : (stepR m s ev).2.1 with
  | true => exact okS_len hr (step_ok hr h hp)
  | false =>
    have : (stepR m s ev).1 = zeroS := by
      unfold stepR at hp ⊢
      split
      · rfl
      · split
        · rfl
        · split
          · rfl
          · split
            · rfl
            · simp_all
    rw [this]
    decide
set_option maxHeartbeats 4000000 in
theorem states7 {g : Nat} (hg : IsTab g) {ty : TypeId} {fr : Nat × Nat} (O : List Heap) (k : Sk) (s : Sta) (ev : Int) (hk : skOk k) (hsl : s.vals.length ≤ max63) : ASpecT g (ptab ty fr) Tryd.prog 7 [skD k, staD s, ii ev] O (bb true) [] O := by
  have hkn := fun O => known11 hg (ty := ty) (fr := fr) O
  have hmk := fun O => make16 O k hk
  have hm := make_made hk
  generalize makeR k = m at *
  have hok := made_ok hm
  have hr := made_right hm
  have h29 := fun O => state29 O m s hok.va
  rw [← ckS_eq (made_chk hm) s] at h29
  have h30 := fun O => marked30 O m s hok
  have h27 := fun O => enabled27 O m s hok
  have h31 := fun O => step31 O m s ev hok
  have h28 := fun O => checkState28 O m s hok
  have h32 := fun O => equalStates32 O s s hsl
  have hz := fun O => none26 O zeroS (by decide)
  by_cases hc : ckS m s ≠ 0
  · have e1 : markR m s = (false, ckS m s) := by unfold markR; rw [if_pos hc]
    have e2 : enR m s = ([], ckS m s) := by unfold enR; rw [if_pos hc]
    have e3 : stpR m s ev = (zeroS, false, ckS m s) := by unfold stpR; rw [if_pos hc]
    simp only [e1] at h30
    simp only [e2] at h27
    simp only [e3] at h31
    clear e1 e2 e3
    generalize ckS m s = c at *
    refine aspecT_stop [] TrydT_ok Tryd.func7 rfl Tryd.call7 Tryd.ntmps7 (Nat.le_of_ble_eq_true rfl) fun E hE => ?_
    refine g_run TrydT_ok Tryd.func7 ?_
    refine g_callT TrydT_ok Tryd.func7 hE (hkn _) rfl rfl rfl rfl rfl rfl ?_
    repeat (first | refine g_cnd TrydT_ok Tryd.func7 rfl (fun _ => ?_) (fun h => absurd h (by decide)) | refine g_cnd TrydT_ok Tryd.func7 rfl (fun h => absurd h (by decide)) (fun _ => ?_) | refine g_know TrydT_ok Tryd.func7 rfl (fun _ => ?_) (fun h => absurd h (by decide)) | refine g_know TrydT_ok Tryd.func7 rfl (fun h => absurd h (by decide)) (fun _ => ?_) | refine s_know TrydT_ok (fun _ => ?_) (fun h => absurd h (by decide)) | refine s_know TrydT_ok (fun h => absurd h (by decide)) (fun _ => ?_))
    first | refine g_cnd TrydT_ok Tryd.func7 rfl (fun h1 => ?_) (fun h1 => ?_) | refine g_know TrydT_ok Tryd.func7 rfl (fun h1 => ?_) (fun h1 => ?_) | refine s_know TrydT_ok (fun h1 => ?_) (fun h1 => ?_)
    · refine g_callT TrydT_ok Tryd.func7 hE (hkn _) rfl rfl rfl rfl rfl rfl ?_
      refine g_ret TrydT_ok (r := bb true) rfl rfl rfl trivial rfl rfl ?_
      rfl
    first | refine g_call TrydT_ok Tryd.func7 (hmk _) rfl rfl rfl rfl rfl ?_ | refine s_callq TrydT_ok (fun _ => hmk _) rfl rfl rfl ?_
    first | refine g_call TrydT_ok Tryd.func7 (h29 _) rfl rfl rfl rfl rfl ?_ | refine s_callq TrydT_ok (fun _ => h29 _) rfl rfl rfl ?_
    first | refine g_call TrydT_ok Tryd.func7 (h30 _) rfl rfl rfl rfl rfl ?_ | refine s_callq TrydT_ok (fun _ => h30 _) rfl rfl rfl ?_
    first | refine g_call TrydT_ok Tryd.func7 (h27 _) rfl rfl rfl rfl rfl ?_ | refine s_callq TrydT_ok (fun _ => h27 _) rfl rfl rfl ?_
    first | refine g_call TrydT_ok Tryd.func7 (h31 _) rfl rfl rfl rfl rfl ?_ | refine s_callq TrydT_ok (fun _ => h31 _) rfl rfl rfl ?_
    first | refine g_call TrydT_ok Tryd.func7 (h28 _) rfl rfl rfl rfl rfl ?_ | refine s_callq TrydT_ok (fun _ => h28 _) rfl rfl rfl ?_
    first | refine g_cnd TrydT_ok Tryd.func7 rfl (fun h2 => ?_) (fun h2 => ?_) | refine g_know TrydT_ok Tryd.func7 rfl (fun h2 => ?_) (fun h2 => ?_) | refine s_know TrydT_ok (fun h2 => ?_) (fun h2 => ?_)
    · exact absurd rfl (bneT h2)
    first | refine g_call TrydT_ok Tryd.func7 (h32 _) rfl rfl rfl rfl rfl ?_ | refine s_callq TrydT_ok (fun _ => h32 _) rfl rfl rfl ?_
    first | refine g_cnd TrydT_ok Tryd.func7 rfl (fun h3 => ?_) (fun h3 => ?_) | refine g_know TrydT_ok Tryd.func7 rfl (fun h3 => ?_) (fun h3 => ?_) | refine s_know TrydT_ok (fun h3 => ?_) (fun h3 => ?_)
    · exact absurd h3 (by simp)
    first | refine g_cnd TrydT_ok Tryd.func7 rfl (fun h4 => ?_) (fun h4 => ?_) | refine g_know TrydT_ok Tryd.func7 rfl (fun h4 => ?_) (fun h4 => ?_) | refine s_know TrydT_ok (fun h4 => ?_) (fun h4 => ?_)
    · repeat (first | refine g_cnd TrydT_ok Tryd.func7 rfl (fun _ => ?_) (fun h => absurd h (by decide)) | refine g_cnd TrydT_ok Tryd.func7 rfl (fun h => absurd h (by decide)) (fun _ => ?_) | refine g_know TrydT_ok Tryd.func7 rfl (fun _ => ?_) (fun h => absurd h (by decide)) | refine g_know TrydT_ok Tryd.func7 rfl (fun h => absurd h (by decide)) (fun _ => ?_) | refine s_know TrydT_ok (fun _ => ?_) (fun h => absurd h (by decide)) | refine s_know TrydT_ok (fun h => absurd h (by decide)) (fun _ => ?_))
      first | refine g_cnd TrydT_ok Tryd.func7 rfl (fun h5 => ?_) (fun h5 => ?_) | refine g_know TrydT_ok Tryd.func7 rfl (fun h5 => ?_) (fun h5 => ?_) | refine s_know TrydT_ok (fun h5 => ?_) (fun h5 => ?_)
      rotate_left
      · exact absurd h5 (by simp)
      repeat (first | refine g_cnd TrydT_ok Tryd.func7 rfl (fun _ => ?_) (fun h => absurd h (by decide)) | refine g_cnd TrydT_ok Tryd.func7 rfl (fun h => absurd h (by decide)) (fun _ => ?_) | refine g_know TrydT_ok Tryd.func7 rfl (fun _ => ?_) (fun h => absurd h (by decide)) | refine g_know TrydT_ok Tryd.func7 rfl (fun h => absurd h (by decide)) (fun _ => ?_) | refine s_know TrydT_ok (fun _ => ?_) (fun h => absurd h (by decide)) | refine s_know TrydT_ok (fun h => absurd h (by decide)) (fun _ => ?_))
      first | refine g_cnd TrydT_ok Tryd.func7 rfl (fun h6 => ?_) (fun h6 => ?_) | refine g_know TrydT_ok Tryd.func7 rfl (fun h6 => ?_) (fun h6 => ?_) | refine s_know TrydT_ok (fun h6 => ?_) (fun h6 => ?_)
      rotate_left
      · exact absurd h6 (by simp)
      first | refine g_call TrydT_ok Tryd.func7 (hz _) rfl rfl rfl rfl rfl ?_ | refine s_callq TrydT_ok (fun _ => hz _) rfl rfl rfl ?_
      repeat (first | refine g_cnd TrydT_ok Tryd.func7 rfl (fun _ => ?_) (fun h => absurd h (by decide)) | refine g_cnd TrydT_ok Tryd.func7 rfl (fun h => absurd h (by decide)) (fun _ => ?_) | refine g_know TrydT_ok Tryd.func7 rfl (fun _ => ?_) (fun h => absurd h (by decide)) | refine g_know TrydT_ok Tryd.func7 rfl (fun h => absurd h (by decide)) (fun _ => ?_) | refine s_know TrydT_ok (fun _ => ?_) (fun h => absurd h (by decide)) | refine s_know TrydT_ok (fun h => absurd h (by decide)) (fun _ => ?_))
      refine g_ret TrydT_ok (r := bb (c == c)) rfl rfl rfl trivial rfl rfl ?_
      simp
    · exact absurd (bneF h4) hc
  have hc : ckS m s = 0 := by simpa using hc
  obtain ⟨-, hvl, hvw, hl0, hl1⟩ := ckS_right hc
  have hvo : valsOk m s.vals := ⟨hvl, hvw⟩
  have hst := fun O ev => step25 O m s ev hm hvo
  have h24a := fun O => has24 O m.marked s.loc hok.ma
  have h24b := fun O => has24 O m.alpha ev hok.al
  have e1 : markR m s = (decide (s.loc ∈ m.marked), 0) := by unfold markR; rw [if_neg (by rw [hc]; simp)]
  have e2 : enR m s = enL m s m.alpha [] := by unfold enR; rw [if_neg (by rw [hc]; simp)]
  have e3 : stpR m s ev = if ev ∉ m.alpha then (zeroS, false, 9) else stepR m s ev := by unfold stpR; rw [if_neg (by rw [hc]; simp)]
  simp only [e1] at h30
  simp only [e2] at h27
  have hal := hok.al
  have hal3 : m.alpha.length = 3 := by rw [hm.al]; rfl
  generalize hEn : enL m s m.alpha [] = En at *
  obtain ⟨el, ee⟩ := En
  generalize stpR m s ev = Q at *
  obtain ⟨ps, pp, pe⟩ := Q
  generalize decide (s.loc ∈ m.marked) = is at *
  simp only [hc] at h28 h29
  clear e1 e2 hc
  simp only at h27 h31
  refine aspecT_stop [12, 20, 22] TrydT_ok Tryd.func7 rfl Tryd.call7 Tryd.ntmps7 (Nat.le_of_ble_eq_true rfl) fun E hE => ?_
  refine g_run TrydT_ok Tryd.func7 ?_
  refine g_callT TrydT_ok Tryd.func7 hE (hkn _) rfl rfl rfl rfl rfl rfl ?_
  repeat (first | refine g_cnd TrydT_ok Tryd.func7 rfl (fun _ => ?_) (fun h => absurd h (by decide)) | refine g_cnd TrydT_ok Tryd.func7 rfl (fun h => absurd h (by decide)) (fun _ => ?_) | refine g_know TrydT_ok Tryd.func7 rfl (fun _ => ?_) (fun h => absurd h (by decide)) | refine g_know TrydT_ok Tryd.func7 rfl (fun h => absurd h (by decide)) (fun _ => ?_) | refine s_know TrydT_ok (fun _ => ?_) (fun h => absurd h (by decide)) | refine s_know TrydT_ok (fun h => absurd h (by decide)) (fun _ => ?_))
  first | refine g_cnd TrydT_ok Tryd.func7 rfl (fun h1 => ?_) (fun h1 => ?_) | refine g_know TrydT_ok Tryd.func7 rfl (fun h1 => ?_) (fun h1 => ?_) | refine s_know TrydT_ok (fun h1 => ?_) (fun h1 => ?_)
  · refine g_callT TrydT_ok Tryd.func7 hE (hkn _) rfl rfl rfl rfl rfl rfl ?_
    refine g_ret TrydT_ok (r := bb true) rfl rfl rfl trivial rfl rfl ?_
    rfl
  first | refine g_call TrydT_ok Tryd.func7 (hmk _) rfl rfl rfl rfl rfl ?_ | refine s_callq TrydT_ok (fun _ => hmk _) rfl rfl rfl ?_
  first | refine g_call TrydT_ok Tryd.func7 (h29 _) rfl rfl rfl rfl rfl ?_ | refine s_callq TrydT_ok (fun _ => h29 _) rfl rfl rfl ?_
  first | refine g_call TrydT_ok Tryd.func7 (h30 _) rfl rfl rfl rfl rfl ?_ | refine s_callq TrydT_ok (fun _ => h30 _) rfl rfl rfl ?_
  first | refine g_call TrydT_ok Tryd.func7 (h27 _) rfl rfl rfl rfl rfl ?_ | refine s_callq TrydT_ok (fun _ => h27 _) rfl rfl rfl ?_
  first | refine g_call TrydT_ok Tryd.func7 (h31 _) rfl rfl rfl rfl rfl ?_ | refine s_callq TrydT_ok (fun _ => h31 _) rfl rfl rfl ?_
  first | refine g_call TrydT_ok Tryd.func7 (h28 _) rfl rfl rfl rfl rfl ?_ | refine s_callq TrydT_ok (fun _ => h28 _) rfl rfl rfl ?_
  repeat (first | refine g_cnd TrydT_ok Tryd.func7 rfl (fun _ => ?_) (fun h => absurd h (by decide)) | refine g_cnd TrydT_ok Tryd.func7 rfl (fun h => absurd h (by decide)) (fun _ => ?_) | refine g_know TrydT_ok Tryd.func7 rfl (fun _ => ?_) (fun h => absurd h (by decide)) | refine g_know TrydT_ok Tryd.func7 rfl (fun h => absurd h (by decide)) (fun _ => ?_) | refine s_know TrydT_ok (fun _ => ?_) (fun h => absurd h (by decide)) | refine s_know TrydT_ok (fun h => absurd h (by decide)) (fun _ => ?_))
  first | refine g_call TrydT_ok Tryd.func7 (h32 _) rfl rfl rfl rfl rfl ?_ | refine s_callq TrydT_ok (fun _ => h32 _) rfl rfl rfl ?_
  first | refine g_cnd TrydT_ok Tryd.func7 rfl (fun h3 => ?_) (fun h3 => ?_) | refine g_know TrydT_ok Tryd.func7 rfl (fun h3 => ?_) (fun h3 => ?_) | refine s_know TrydT_ok (fun h3 => ?_) (fun h3 => ?_)
  · exact absurd h3 (by simp)
  repeat (first | refine g_cnd TrydT_ok Tryd.func7 rfl (fun _ => ?_) (fun h => absurd h (by decide)) | refine g_cnd TrydT_ok Tryd.func7 rfl (fun h => absurd h (by decide)) (fun _ => ?_) | refine g_know TrydT_ok Tryd.func7 rfl (fun _ => ?_) (fun h => absurd h (by decide)) | refine g_know TrydT_ok Tryd.func7 rfl (fun h => absurd h (by decide)) (fun _ => ?_) | refine s_know TrydT_ok (fun _ => ?_) (fun h => absurd h (by decide)) | refine s_know TrydT_ok (fun h => absurd h (by decide)) (fun _ => ?_))
  refine g_stop ?_
  refine rch_meet (l := [(8, ii 0), (2, ii ev), (4, .own 0 4 0 0), (7, .own 0 7 0 0), (9, bb is), (10, ii 0), (11, ints el), (12, ii ee), (13, .own 0 13 0 0), (14, bb pp), (15, ii pe)]) (Hv := [(4, .box [ii s.loc, ints s.vals]), (7, .box (extC m)), (13, .box [ii ps.loc, ints ps.vals])]) (n := 205) ?_ ⟨rfl, rfl, rfl, rfl, rfl, rfl, rfl, rfl, rfl, rfl, rfl, trivial⟩ rfl ⟨rfl, rfl, rfl, trivial⟩ rfl rfl
  clear h28 h29 h30 h27 h31 h32 h1 h3 hkn hmk
  apply join_q (P := fun x : Int × List Int => x.2.length ≤ 3 ∧ if x.1 = 0 then el = x.2 ∧ ee = 0 else el = [] ∧ ee = x.1) (s6 := fun x : Int × List Int => { σ := [(8, ii x.1), (16, ints x.2), (2, ii ev), (4, .own 0 4 0 0), (7, .own 0 7 0 0), (9, bb is), (10, ii 0), (11, ints el), (12, ii ee), (13, .own 0 13 0 0), (14, bb pp), (15, ii pe)], S := [(4, .box [ii s.loc, ints s.vals]), (7, .box (extC m)), (13, .box [ii ps.loc, ints ps.vals])] :: O, n := 205 })
  · intro J
    refine g_run TrydT_ok Tryd.func7 ?_
    refine g_go TrydT_ok Tryd.func7 ?_
    refine g_loop ?_
    refine rch_wk (wk_nil 16 132 3 1 rfl rfl rfl) ?_
    refine rch_loop2 (fun x : Nat × List Int × Int => [(8, ii x.2.2), (16, .osl 0 132), (17, ii x.1), (2, ii ev), (4, .own 0 4 0 0), (7, .own 0 7 0 0), (9, bb is), (10, ii 0), (11, ints el), (12, ii ee), (13, .own 0 13 0 0), (14, bb pp), (15, ii pe)]) (fun x => [(132, oints x.2.1), (4, .box [ii s.loc, ints s.vals]), (7, .box (extC m)), (13, .box [ii ps.loc, ints ps.vals])]) (fun _ => O) 205
      (fun x => x.1 ≤ m.alpha.length ∧ x.2.1.length ≤ x.1 ∧ if x.2.2 = 0 then enL m s (m.alpha.drop x.1) x.2.1 = (el, ee) else el = [] ∧ ee = x.2.2) (fun x => m.alpha.length - x.1) (0, [], 0) ⟨Nat.zero_le _, Nat.le_refl _, by rw [if_pos rfl]; exact hEn⟩ ⟨rfl, rfl, rfl, rfl, rfl, rfl, rfl, rfl, rfl, rfl, rfl, rfl, rfl, trivial⟩ rfl ⟨rfl, rfl, rfl, rfl, trivial⟩ rfl rfl ?_
    rintro ⟨i, acc, want⟩ ⟨hi, hacc, hno⟩ ih
    simp only at hi hacc hno

    refine g_run TrydT_ok Tryd.func7 ?_
    first | refine g_cnd TrydT_ok Tryd.func7 rfl (fun g1 => ?_) (fun g1 => ?_) | refine g_know TrydT_ok Tryd.func7 rfl (fun g1 => ?_) (fun g1 => ?_) | refine s_know TrydT_ok (fun g1 => ?_) (fun g1 => ?_)
    · have h1 : i < m.alpha.length := by simpa using g1
      clear g1
      first | refine g_cnd TrydT_ok Tryd.func7 rfl (fun g2 => ?_) (fun g2 => ?_) | refine g_know TrydT_ok Tryd.func7 rfl (fun g2 => ?_) (fun g2 => ?_) | refine s_know TrydT_ok (fun g2 => ?_) (fun g2 => ?_)
      · have h2 : want = 0 := beqT g2
        clear g2
        subst h2
        rw [if_pos rfl] at hno
        have hd : m.alpha.drop i = m.alpha[i] :: m.alpha.drop (i + 1) := List.drop_eq_getElem_cons h1
        have hg : (m.alpha.map fun x => [vi x])[(i : Int).toNat]? = some [vi m.alpha[i]] := get_mapZ (f := fun x => [vi x]) h1
        generalize m.alpha[i] = e at hd hg
        rw [hd] at hno
        simp only [enL] at hno
        have hst := fun O => hst O e
        have hse := @stepR_err m s e
        generalize stepR m s e = q at *
        obtain ⟨⟨ql, qv⟩, qp, qe⟩ := q
        simp only at hst hse hno
        refine g_drawn TrydT_ok Tryd.func7 mixedT rfl ?_
        first | refine g_need TrydT_ok Tryd.func7 (by exact ⟨by omega, by show (i : Int) < (m.alpha.length : Int); omega⟩) ?_ | refine s_need TrydT_ok (by exact ⟨by omega, by show (i : Int) < (m.alpha.length : Int); omega⟩) ?_
        first | refine g_elem TrydT_ok Tryd.func7 (hg) ?_ | refine s_elem TrydT_ok (hg) ?_
        first | refine g_call TrydT_ok Tryd.func7 (hst _) rfl rfl rfl rfl rfl ?_ | refine s_callq TrydT_ok (fun _ => hst _) rfl rfl rfl ?_
        refine s_put TrydT_ok rfl rfl rfl ?_
        refine e_done TrydT_ok Tryd.func7 (by kernel_rfl) ?_
        cases qp with
        | true =>
          have hqe : qe = 0 := by
            apply Classical.byContradiction
            intro h
            exact absurd (hse h).2 (by simp)
          subst hqe
          rw [if_neg (by simp)] at hno
          first | refine g_cnd TrydT_ok Tryd.func7 rfl (fun h4 => ?_) (fun h4 => ?_) | refine g_know TrydT_ok Tryd.func7 rfl (fun h4 => ?_) (fun h4 => ?_) | refine s_know TrydT_ok (fun h4 => ?_) (fun h4 => ?_)
          rotate_left
          · exact absurd h4 (by simp)
          first | refine g_need TrydT_ok Tryd.func7 (by exact ⟨by omega, by show (i : Int) < (m.alpha.length : Int); omega⟩) ?_ | refine s_need TrydT_ok (by exact ⟨by omega, by show (i : Int) < (m.alpha.length : Int); omega⟩) ?_
          first | refine g_elem TrydT_ok Tryd.func7 (hg) ?_ | refine s_elem TrydT_ok (hg) ?_
          first | refine g_need TrydT_ok Tryd.func7 (by exact ⟨by show (acc.length + 1) * 8 ≤ 140737488355328; omega, by show acc.length + 1 ≤ 9223372036854775807; omega⟩) ?_ | refine s_need TrydT_ok (by exact ⟨by show (acc.length + 1) * 8 ≤ 140737488355328; omega, by show acc.length + 1 ≤ 9223372036854775807; omega⟩) ?_
          refine g_loop ?_
          refine ih (i + 1, acc ++ [e], 0) _ _ ⟨h1, by simp only [List.length_append, List.length_singleton]; omega, by rw [if_pos rfl]; exact hno⟩ (by simp only; omega) ⟨rfl, rfl, congrArg ii (wsucc h1 hal), rfl, rfl, rfl, rfl, rfl, rfl, rfl, rfl, rfl, rfl, trivial⟩ rfl ⟨congrArg some (oints_app acc e), rfl, rfl, rfl, trivial⟩ rfl rfl
        | false =>
          first | refine g_cnd TrydT_ok Tryd.func7 rfl (fun h4 => ?_) (fun h4 => ?_) | refine g_know TrydT_ok Tryd.func7 rfl (fun h4 => ?_) (fun h4 => ?_) | refine s_know TrydT_ok (fun h4 => ?_) (fun h4 => ?_)
          · exact absurd h4 (by simp)
          refine g_loop ?_
          refine ih (i + 1, acc, qe) _ _ ⟨h1, by simp only; omega, ?_⟩ (by simp only; omega) ⟨rfl, rfl, congrArg ii (wsucc h1 hal), rfl, rfl, rfl, rfl, rfl, rfl, rfl, rfl, rfl, rfl, trivial⟩ rfl ⟨rfl, rfl, rfl, rfl, trivial⟩ rfl rfl
          by_cases hq : qe = 0
          · subst hq
            rw [if_neg (by simp)] at hno
            rw [if_pos rfl]
            exact hno
          · rw [if_pos hq] at hno
            rw [if_neg hq]
            simp only [Prod.mk.injEq] at hno
            exact ⟨hno.1.symm, hno.2.symm⟩
      · have h2 : want ≠ 0 := beqF g2
        clear g2
        rw [if_neg h2] at hno
        repeat (first | refine g_cnd TrydT_ok Tryd.func7 rfl (fun _ => ?_) (fun h => absurd h (by decide)) | refine g_cnd TrydT_ok Tryd.func7 rfl (fun h => absurd h (by decide)) (fun _ => ?_) | refine g_know TrydT_ok Tryd.func7 rfl (fun _ => ?_) (fun h => absurd h (by decide)) | refine g_know TrydT_ok Tryd.func7 rfl (fun h => absurd h (by decide)) (fun _ => ?_) | refine s_know TrydT_ok (fun _ => ?_) (fun h => absurd h (by decide)) | refine s_know TrydT_ok (fun h => absurd h (by decide)) (fun _ => ?_))
        refine g_stop ?_
        refine rch_wk (wk_freeze 132 rfl rfl) ?_
        refine rch_wk (wk_imm rfl) ?_
        exact rch_meet (J (want, acc) ⟨by simp only; omega, by rw [if_neg h2]; exact hno⟩) ⟨rfl, rfl, rfl, rfl, rfl, rfl, rfl, rfl, rfl, rfl, rfl, rfl, trivial⟩ rfl ⟨rfl, rfl, rfl, trivial⟩ rfl rfl
    · have h1 : m.alpha.length ≤ i := by simpa using g1
      clear g1
      rw [List.drop_eq_nil_of_le h1] at hno
      simp only [enL] at hno
      repeat (first | refine g_cnd TrydT_ok Tryd.func7 rfl (fun _ => ?_) (fun h => absurd h (by decide)) | refine g_cnd TrydT_ok Tryd.func7 rfl (fun h => absurd h (by decide)) (fun _ => ?_) | refine g_know TrydT_ok Tryd.func7 rfl (fun _ => ?_) (fun h => absurd h (by decide)) | refine g_know TrydT_ok Tryd.func7 rfl (fun h => absurd h (by decide)) (fun _ => ?_) | refine s_know TrydT_ok (fun _ => ?_) (fun h => absurd h (by decide)) | refine s_know TrydT_ok (fun h => absurd h (by decide)) (fun _ => ?_))
      refine g_stop ?_
      refine rch_wk (wk_freeze 132 rfl rfl) ?_
      refine rch_wk (wk_imm rfl) ?_
      refine rch_meet (J (want, acc) ⟨by simp only; omega, ?_⟩) ⟨rfl, rfl, rfl, rfl, rfl, rfl, rfl, rfl, rfl, rfl, rfl, rfl, trivial⟩ rfl ⟨rfl, rfl, rfl, trivial⟩ rfl rfl
      simp only
      split
      · rename_i hw
        rw [if_pos hw] at hno
        simp only [Prod.mk.injEq] at hno
        exact ⟨hno.1.symm, hno.2.symm⟩
      · rename_i hw
        rw [if_neg hw] at hno
        exact hno
  · rintro ⟨want, acc⟩ ⟨hal4, hP⟩
    simp only at hP hal4
    refine rch_meet (l := [(8, ii want), (16, ints acc), (2, ii ev), (4, .own 0 4 0 0), (7, .own 0 7 0 0), (9, bb is), (10, ii 0), (11, ints el), (12, ii ee), (13, .own 0 13 0 0), (14, bb pp), (15, ii pe)]) (Hv := [(4, .box [ii s.loc, ints s.vals]), (7, .box (extC m)), (13, .box [ii ps.loc, ints ps.vals])]) (n := 205) ?_ ⟨rfl, rfl, rfl, rfl, rfl, rfl, rfl, rfl, rfl, rfl, rfl, rfl, trivial⟩ rfl ⟨rfl, rfl, rfl, trivial⟩ rfl rfl
    have hw := fun O => wordEqual19 O acc acc (by simp only [max63]; omega)
    apply join_p (P := True) (s6 := { σ := [(2, ii ev), (4, .own 0 4 0 0), (7, .own 0 7 0 0), (13, .own 0 13 0 0), (14, bb pp), (15, ii pe)], S := [(4, .box [ii s.loc, ints s.vals]), (7, .box (extC m)), (13, .box [ii ps.loc, ints ps.vals])] :: O, n := 205 })
    · intro J
      refine g_run TrydT_ok Tryd.func7 ?_
      refine g_go TrydT_ok Tryd.func7 ?_
      first | refine g_call TrydT_ok Tryd.func7 (h24a _) rfl rfl rfl rfl rfl ?_ | refine s_callq TrydT_ok (fun _ => h24a _) rfl rfl rfl ?_
      first | refine g_cnd TrydT_ok Tryd.func7 rfl (fun h1 => ?_) (fun h1 => ?_) | refine g_know TrydT_ok Tryd.func7 rfl (fun h1 => ?_) (fun h1 => ?_) | refine s_know TrydT_ok (fun h1 => ?_) (fun h1 => ?_)
      · exact absurd h1 (by simp)
      repeat (first | refine g_cnd TrydT_ok Tryd.func7 rfl (fun _ => ?_) (fun h => absurd h (by decide)) | refine g_cnd TrydT_ok Tryd.func7 rfl (fun h => absurd h (by decide)) (fun _ => ?_) | refine g_know TrydT_ok Tryd.func7 rfl (fun _ => ?_) (fun h => absurd h (by decide)) | refine g_know TrydT_ok Tryd.func7 rfl (fun h => absurd h (by decide)) (fun _ => ?_) | refine s_know TrydT_ok (fun _ => ?_) (fun h => absurd h (by decide)) | refine s_know TrydT_ok (fun h => absurd h (by decide)) (fun _ => ?_))
      by_cases hw0 : want = 0
      · subst hw0
        rw [if_pos rfl] at hP
        obtain ⟨rfl, rfl⟩ := hP
        repeat (first | refine g_cnd TrydT_ok Tryd.func7 rfl (fun _ => ?_) (fun h => absurd h (by decide)) | refine g_cnd TrydT_ok Tryd.func7 rfl (fun h => absurd h (by decide)) (fun _ => ?_) | refine g_know TrydT_ok Tryd.func7 rfl (fun _ => ?_) (fun h => absurd h (by decide)) | refine g_know TrydT_ok Tryd.func7 rfl (fun h => absurd h (by decide)) (fun _ => ?_) | refine s_know TrydT_ok (fun _ => ?_) (fun h => absurd h (by decide)) | refine s_know TrydT_ok (fun h => absurd h (by decide)) (fun _ => ?_))
        first | refine g_call TrydT_ok Tryd.func7 (hw _) rfl rfl rfl rfl rfl ?_ | refine s_callq TrydT_ok (fun _ => hw _) rfl rfl rfl ?_
        first | refine g_cnd TrydT_ok Tryd.func7 rfl (fun h2 => ?_) (fun h2 => ?_) | refine g_know TrydT_ok Tryd.func7 rfl (fun h2 => ?_) (fun h2 => ?_) | refine s_know TrydT_ok (fun h2 => ?_) (fun h2 => ?_)
        · exact absurd h2 (by simp)
        repeat (first | refine g_cnd TrydT_ok Tryd.func7 rfl (fun _ => ?_) (fun h => absurd h (by decide)) | refine g_cnd TrydT_ok Tryd.func7 rfl (fun h => absurd h (by decide)) (fun _ => ?_) | refine g_know TrydT_ok Tryd.func7 rfl (fun _ => ?_) (fun h => absurd h (by decide)) | refine g_know TrydT_ok Tryd.func7 rfl (fun h => absurd h (by decide)) (fun _ => ?_) | refine s_know TrydT_ok (fun _ => ?_) (fun h => absurd h (by decide)) | refine s_know TrydT_ok (fun h => absurd h (by decide)) (fun _ => ?_))
        refine g_stop ?_
        refine rch_meet (J trivial) ⟨rfl, rfl, rfl, rfl, rfl, rfl, trivial⟩ rfl ⟨rfl, rfl, rfl, trivial⟩ rfl rfl
      · rw [if_neg hw0] at hP
        obtain ⟨rfl, rfl⟩ := hP
        first | refine g_cnd TrydT_ok Tryd.func7 rfl (fun h2 => ?_) (fun h2 => ?_) | refine g_know TrydT_ok Tryd.func7 rfl (fun h2 => ?_) (fun h2 => ?_) | refine s_know TrydT_ok (fun h2 => ?_) (fun h2 => ?_)
        · exact absurd h2 (by simp)
        first | refine g_cnd TrydT_ok Tryd.func7 rfl (fun h3 => ?_) (fun h3 => ?_) | refine g_know TrydT_ok Tryd.func7 rfl (fun h3 => ?_) (fun h3 => ?_) | refine s_know TrydT_ok (fun h3 => ?_) (fun h3 => ?_)
        · exact absurd (beqT h3) hw0
        repeat (first | refine g_cnd TrydT_ok Tryd.func7 rfl (fun _ => ?_) (fun h => absurd h (by decide)) | refine g_cnd TrydT_ok Tryd.func7 rfl (fun h => absurd h (by decide)) (fun _ => ?_) | refine g_know TrydT_ok Tryd.func7 rfl (fun _ => ?_) (fun h => absurd h (by decide)) | refine g_know TrydT_ok Tryd.func7 rfl (fun h => absurd h (by decide)) (fun _ => ?_) | refine s_know TrydT_ok (fun _ => ?_) (fun h => absurd h (by decide)) | refine s_know TrydT_ok (fun h => absurd h (by decide)) (fun _ => ?_))
        first | refine g_cnd TrydT_ok Tryd.func7 rfl (fun h4 => ?_) (fun h4 => ?_) | refine g_know TrydT_ok Tryd.func7 rfl (fun h4 => ?_) (fun h4 => ?_) | refine s_know TrydT_ok (fun h4 => ?_) (fun h4 => ?_)
        rotate_left
        · exact absurd (bneF h4) hw0
        repeat (first | refine g_cnd TrydT_ok Tryd.func7 rfl (fun _ => ?_) (fun h => absurd h (by decide)) | refine g_cnd TrydT_ok Tryd.func7 rfl (fun h => absurd h (by decide)) (fun _ => ?_) | refine g_know TrydT_ok Tryd.func7 rfl (fun _ => ?_) (fun h => absurd h (by decide)) | refine g_know TrydT_ok Tryd.func7 rfl (fun h => absurd h (by decide)) (fun _ => ?_) | refine s_know TrydT_ok (fun _ => ?_) (fun h => absurd h (by decide)) | refine s_know TrydT_ok (fun h => absurd h (by decide)) (fun _ => ?_))
        refine g_stop ?_
        refine rch_meet (J trivial) ⟨rfl, rfl, rfl, rfl, rfl, rfl, trivial⟩ rfl ⟨rfl, rfl, rfl, trivial⟩ rfl rfl
    · intro _
      refine g_run TrydT_ok Tryd.func7 ?_
      refine g_go TrydT_ok Tryd.func7 ?_
      first | refine g_call TrydT_ok Tryd.func7 (h24b _) rfl rfl rfl rfl rfl ?_ | refine s_callq TrydT_ok (fun _ => h24b _) rfl rfl rfl ?_
      first | refine g_cnd TrydT_ok Tryd.func7 rfl (fun h1 => ?_) (fun h1 => ?_) | refine g_know TrydT_ok Tryd.func7 rfl (fun h1 => ?_) (fun h1 => ?_) | refine s_know TrydT_ok (fun h1 => ?_) (fun h1 => ?_)
      · have h1 : ev ∉ m.alpha := by simpa using h1
        rw [if_pos h1] at e3
        simp only [Prod.mk.injEq] at e3
        obtain ⟨rfl, rfl, rfl⟩ := e3
        first | refine g_call TrydT_ok Tryd.func7 (hz _) rfl rfl rfl rfl rfl ?_ | refine s_callq TrydT_ok (fun _ => hz _) rfl rfl rfl ?_
        repeat (first | refine g_cnd TrydT_ok Tryd.func7 rfl (fun _ => ?_) (fun h => absurd h (by decide)) | refine g_cnd TrydT_ok Tryd.func7 rfl (fun h => absurd h (by decide)) (fun _ => ?_) | refine g_know TrydT_ok Tryd.func7 rfl (fun _ => ?_) (fun h => absurd h (by decide)) | refine g_know TrydT_ok Tryd.func7 rfl (fun h => absurd h (by decide)) (fun _ => ?_) | refine s_know TrydT_ok (fun _ => ?_) (fun h => absurd h (by decide)) | refine s_know TrydT_ok (fun h => absurd h (by decide)) (fun _ => ?_))
        refine g_ret TrydT_ok (r := bb true) rfl rfl rfl trivial rfl rfl ?_
        rfl
      · have h1 : ev ∈ m.alpha := by simpa using h1
        rw [if_neg (by simpa using h1)] at e3
        have hst := fun O => hst O ev
        rw [← e3] at hst
        have hso := @step_ok m s ev hr ⟨⟨hl0, hl1⟩, hvw⟩
        have hsz := @stepR_len m s ev hr ⟨⟨hl0, hl1⟩, hvw⟩
        rw [← e3] at hsz
        have hsm := fun O => same22 O ps ps hsz
        first | refine g_call TrydT_ok Tryd.func7 (hst _) rfl rfl rfl rfl rfl ?_ | refine s_callq TrydT_ok (fun _ => hst _) rfl rfl rfl ?_
        first | refine g_call TrydT_ok Tryd.func7 (hsm _) rfl rfl rfl rfl rfl ?_ | refine s_callq TrydT_ok (fun _ => hsm _) rfl rfl rfl ?_
        first | refine g_cnd TrydT_ok Tryd.func7 rfl (fun h2 => ?_) (fun h2 => ?_) | refine g_know TrydT_ok Tryd.func7 rfl (fun h2 => ?_) (fun h2 => ?_) | refine s_know TrydT_ok (fun h2 => ?_) (fun h2 => ?_)
        rotate_left
        · exact absurd h2 (by simp)
        first | refine g_cnd TrydT_ok Tryd.func7 rfl (fun h3 => ?_) (fun h3 => ?_) | refine g_know TrydT_ok Tryd.func7 rfl (fun h3 => ?_) (fun h3 => ?_) | refine s_know TrydT_ok (fun h3 => ?_) (fun h3 => ?_)
        rotate_left
        · exact absurd h3 (by simp)
        refine g_ret TrydT_ok (r := bb (pe == pe)) rfl rfl rfl trivial rfl rfl ?_
        simp
end Go.AI
