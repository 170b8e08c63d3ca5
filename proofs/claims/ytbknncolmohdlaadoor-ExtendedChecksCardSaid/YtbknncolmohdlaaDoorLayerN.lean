/- The layer of abstract runs, part 14. -/
import Derived.Test.YtbknncolmohdlaaDoorLayerM
set_option linter.unusedSimpArgs false
set_option linter.unusedVariables false
set_option linter.all false
namespace Go.AI
open Go.Proofs
set_option maxRecDepth 20000
theorem checkSet_of {n : Int} : ∀ {l : List Int} {p : Option Int}, l.Pairwise (· < ·) → (∀ x ∈ l, 0 ≤ x ∧ x < n) → (∀ y, p = some y → ∀ x ∈ l, y < x) → checkSet n l p = 0
  | [], _, _, _, _ => rfl
  | x :: r, p, hs, hr, hp => by
    simp only [checkSet]
    have h1 := hr x (by simp)
    rw [if_neg (by omega), if_neg]
    · rw [List.pairwise_cons] at hs
      refine checkSet_of hs.2 (fun y hy => hr y (by simp [hy])) (fun y e z hz => ?_)
      simp only [Option.some.injEq] at e
      subst e
      exact hs.1 z hz
    · cases p with
      | none => simp
      | some y =>
        have := hp y rfl x (by simp)
        simp only [Option.any_some, decide_eq_true_eq]
        omega
theorem mrks_set (marks : Int) (L : Nat) : checkSet (L : Int) (mrks marks L) none = 0 := by
  refine checkSet_of ?_ (fun x hx => ?_) (by simp)
  · unfold mrks
    rw [List.pairwise_map]
    exact (List.Pairwise.filter _ List.pairwise_lt_range).imp fun h => by omega
  · unfold mrks at hx
    simp only [List.mem_map, List.mem_filter, List.mem_range] at hx
    obtain ⟨i, ⟨h1, _⟩, rfl⟩ := hx
    omega
/-- What is known of the variables of a sketch. -/
structure vrOk (v : Vr) : Prop where
  lo : -4 ≤ v.low
  hi : v.high ≤ 7
  w : v.low ≤ v.high ∧ v.high ≤ v.low + 3
  ini : v.low ≤ v.init ∧ v.init ≤ v.high
  nm : v.name.size = 2
theorem rngV_ok (i : Nat) {p : Int × Int} (hp : pairOk p) : vrOk (rngV i p) := by
  have h1 := Int.tmod_lt_of_pos p.1 (show (0 : Int) < 5 by decide)
  have h2 := Int.lt_tmod_of_pos p.1 (show (0 : Int) < 5 by decide)
  have h3 := Int.emod_nonneg (p.2 % 256 / 4) (show p.2 % 256 % 4 + 1 ≠ 0 by omega)
  have h4 := Int.emod_lt_of_pos (p.2 % 256 / 4) (show 0 < p.2 % 256 % 4 + 1 by omega)
  refine ⟨?_, ?_, ?_, ?_, nameR_size i⟩ <;> simp only [rngV] <;> omega
theorem rngsR_ok {l : List (Int × Int)} (h : ∀ p ∈ l, pairOk p) : ∀ v ∈ rngsR l, vrOk v := by
  intro v hv
  simp only [rngsR, List.mem_map, List.mem_range] at hv
  obtain ⟨i, hi, rfl⟩ := hv
  have : l.getD i (0, 0) = l[i]'(by omega) := by simp [show i < l.length by omega]
  rw [this]
  exact rngV_ok i (h _ (List.getElem_mem _))
theorem checkVr_ok {ds : List Vr} {v : Vr} (hn : isNameB v.name = true) (hd : ds.any (fun x => x.name.toList == v.name.toList) = false) (h : vrOk v) : checkVr ds v = none := by
  have := h.lo
  have := h.hi
  have := h.w
  have := h.ini
  unfold checkVr
  rw [if_neg (by rw [hn]; simp), if_neg (by rw [hd]; simp), if_neg, if_neg (by omega), if_neg (by omega)]
  simp only [checkVr.large, Bool.or_eq_true, decide_eq_true_eq]
  omega
theorem rngs_err {l : List (Int × Int)} (hl : l.length ≤ 2) (h : ∀ p ∈ l, pairOk p) : varsErr (rngsR l) = 0 := by
  have hlen : (rngsR l).length ≤ 2 := by rw [rngsR_len]; omega
  unfold varsErr
  rw [if_neg (by omega)]
  have hok := rngsR_ok h
  have n0 : isNameB (nameR 0) = true := by kernel_rfl
  have n1 : isNameB (nameR 1) = true := by kernel_rfl
  have n2 : ((nameR 0).toList == (nameR 1).toList) = false := by kernel_rfl
  match l, hl with
  | [], _ => rfl
  | [a], _ =>
    have e : rngsR [a] = [rngV 0 a] := rfl
    rw [e] at hok ⊢
    simp only [checkVrs]
    rw [checkVr_ok n0 (by simp) (hok _ (by simp))]
  | [a, b], _ =>
    have e : rngsR [a, b] = [rngV 0 a, rngV 1 b] := rfl
    rw [e] at hok ⊢
    simp only [checkVrs]
    rw [checkVr_ok n0 (by simp) (hok _ (by simp))]
    simp only
    rw [checkVr_ok n1 ?_ (hok _ (by simp))]
    simp only [List.take_succ_cons, List.take_zero, List.any_cons, List.any_nil, Bool.or_false]
    exact n2
/-- In order. -/
def leMv (x y : Mv) : Prop := ¬ (y.frm < x.frm ∨ (y.frm = x.frm ∧ y.ev < x.ev))
theorem leMv_trans {x y z : Mv} (h : leMv x y) (h' : leMv y z) : leMv x z := by unfold leMv at *; omega
theorem gtMv_iff {x y : Mv} : gtMv x y = true ↔ ¬ leMv x y := by
  unfold gtMv leMv
  rw [decide_eq_true_eq]
  omega
theorem posR_front {l : List Mv} {y : Mv} (hs : l.Pairwise leMv) : ∀ n, n ≤ l.length → (∀ x ∈ l.drop n, leMv y x) → (∀ x ∈ l.take (posR l y n), leMv x y) ∧ ∀ x ∈ l.drop (posR l y n), leMv y x
  | 0, _, h => ⟨by simp [posR], h⟩
  | n + 1, hn, h => by
    simp only [posR]
    rw [List.getElem?_eq_getElem (by omega)]
    simp only
    cases hg : gtMv l[n] y with
    | true =>
      rw [cond_true]
      refine posR_front hs n (by omega) fun x hx => ?_
      rw [List.drop_eq_getElem_cons (by omega)] at hx
      rcases List.mem_cons.1 hx with rfl | hx
      · have := gtMv_iff.1 hg
        unfold leMv at *
        omega
      · exact h x hx
    | false =>
      rw [cond_false]
      refine ⟨fun x hx => ?_, h⟩
      have hle : leMv l[n] y := by
        apply Classical.byContradiction
        intro hc
        rw [gtMv_iff.2 hc] at hg; cases hg
      rw [List.take_add_one, List.getElem?_eq_getElem (by omega)] at hx
      simp only [List.mem_append, Option.toList, List.mem_singleton] at hx
      rcases hx with hx | rfl
      · obtain ⟨j, hj, rfl⟩ := List.mem_take_iff_getElem.1 hx
        have hjn : j < n := by omega
        exact leMv_trans (List.pairwise_iff_getElem.1 hs j n (by omega) (by omega) hjn) hle
      · exact hle
theorem ins_sorted {l : List Mv} {y : Mv} (hs : l.Pairwise leMv) : (insMv l y).Pairwise leMv := by
  have h := posR_front (y := y) hs l.length (Nat.le_refl _) (by simp)
  unfold insMv
  rw [List.pairwise_append]
  refine ⟨hs.sublist (List.take_sublist _ _), ?_, ?_⟩
  · rw [List.pairwise_cons]
    exact ⟨h.2, hs.sublist (List.drop_sublist _ _)⟩
  · intro a ha b hb
    rcases List.mem_cons.1 hb with rfl | hb
    · exact h.1 a ha
    · exact leMv_trans (h.1 a ha) (h.2 b hb)
theorem ins_mem {l : List Mv} {y x : Mv} : x ∈ insMv l y → x ∈ l ∨ x = y := by
  unfold insMv
  intro h
  simp only [List.mem_append, List.mem_cons] at h
  rcases h with h | rfl | h
  · exact .inl (List.mem_of_mem_take h)
  · exact .inr rfl
  · exact .inl (List.mem_of_mem_drop h)
theorem mvsL_all {P : Mv → Prop} {locs n : Int} {l : List Lin} (h : ∀ x ∈ l, P (mvOf locs n x)) : ∀ i, i ≤ l.length → (mvsL locs n l i).Pairwise leMv ∧ ∀ y ∈ mvsL locs n l i, P y
  | 0, _ => by simp [mvsL]
  | i + 1, hi => by
    obtain ⟨h1, h2⟩ := mvsL_all h i (by omega)
    rw [mvsL_succ (by omega)]
    refine ⟨ins_sorted h1, fun y hy => ?_⟩
    rcases ins_mem hy with hy | rfl
    · exact h2 y hy
    · exact h _ (List.getElem_mem _)
/-- What a move of a sketch is like. -/
structure mvGood (L n : Int) (x : Mv) : Prop where
  frm : 0 ≤ x.frm ∧ x.frm < L
  to : 0 ≤ x.to ∧ x.to < L
  ev : x.ev = 0 ∨ x.ev = 1 ∨ x.ev = 2
  g : typedX x.g n 2 = 0
  us : x.us = [] ∨ ∃ u, x.us = [u] ∧ 0 ≤ u.v ∧ u.v < n ∧ typedX u.x n 1 = 0 ∧ exOk u.x
  gok : exOk x.g
theorem true_typed {n : Int} (h : 0 ≤ n) (h2 : n ≤ 16) : typedX trueE n 2 = 0 := typed_of h h2 ⟨rfl, ⟨rfl, trivial⟩, ⟨rfl, trivial⟩, trivial⟩ (by decide) (by decide) rfl (by decide)
theorem true_ok : exOk trueE := ⟨by simp [max63], ⟨Nat.zero_le _, trivial⟩, ⟨Nat.zero_le _, trivial⟩, trivial⟩
theorem mvOf_good {L n : Int} (hL : 0 < L) (hn : 0 ≤ n) (hn2 : n ≤ 16) {x : Lin} (hx : linOk x) : mvGood L n (mvOf L n x) := by
  obtain ⟨h0, h1, h2, hg, hgl, hu, hul⟩ := hx
  have hb0 := b0_ok hu
  refine ⟨⟨Int.emod_nonneg _ (by omega), Int.emod_lt_of_pos _ hL⟩, ⟨Int.emod_nonneg _ (by omega), Int.emod_lt_of_pos _ hL⟩, ?_, ?_, ?_, ?_⟩
  · show x.a1 % 3 = 0 ∨ x.a1 % 3 = 1 ∨ x.a1 % 3 = 2
    omega
  · show typedX (guardE n x.g) n 2 = 0
    unfold guardE
    split
    · exact (grow_typed hn hn2 false fun b hb => hg b (List.mem_of_mem_take hb)).1
    · exact true_typed hn hn2
  · show updsE n x.u = [] ∨ _
    unfold updsE
    split
    · rename_i h
      have ht := grow_typed hn hn2 true (bs := (x.u.take 12).drop 1) fun b hb => hu b (List.mem_of_mem_take (List.mem_of_mem_drop hb))
      have h2 : 0 < n := h.2
      exact .inr ⟨⟨b0 x.u % n, growE n true ((x.u.take 12).drop 1)⟩, (by show updsE n x.u = _; unfold updsE; rw [if_pos h]), Int.emod_nonneg _ (by omega), Int.emod_lt_of_pos _ h2, ht.1, ht.2⟩
    · exact .inl rfl
  · show exOk (guardE n x.g)
    unfold guardE
    split
    · exact (grow_typed hn hn2 false fun b hb => hg b (List.mem_of_mem_take hb)).2
    · exact true_ok
/-- What a sketched automaton is like. -/
structure made (m : Ext) : Prop where
  al : m.alpha = [0, 1, 2]
  lo : 1 ≤ m.locs ∧ m.locs ≤ 4
  ini : m.init = 0
  vl : m.vars.length ≤ 2
  v : ∀ v ∈ m.vars, vrOk v
  ml : m.moves.length ≤ 8
  mv : ∀ x ∈ m.moves, mvGood m.locs m.vars.length x
  sorted : m.moves.Pairwise leMv
  ve : varsErr m.vars = 0
  ma : checkSet m.locs m.marked none = 0
  mal : m.marked.length ≤ 4
theorem make_made {k : Sk} (hk : skOk k) : made (makeR k) := by
  have hl := hk.locs
  have hL : 1 ≤ locsR k ∧ locsR k ≤ 4 := by unfold locsR; omega
  have hp : ∀ p ∈ k.rngs.take 2, pairOk p := fun p h => hk.r p (List.mem_of_mem_take h)
  have hv2 : (rngsR (k.rngs.take 2)).length ≤ 2 := by rw [rngsR_len, List.length_take]; omega
  have hall := mvsL_all (P := mvGood (locsR k) (rngsR (k.rngs.take 2)).length) (locs := locsR k) (n := (rngsR (k.rngs.take 2)).length) (l := k.lines) (fun x hx => mvOf_good (by omega) (by omega) (by omega) (hk.l x hx)) (min k.lines.length 8) (by omega)
  have hml := mrks_len k.marks (locsR k)
  refine ⟨rfl, ⟨?_, ?_⟩, rfl, hv2, rngsR_ok hp, ?_, hall.2, hall.1, rngs_err (by rw [List.length_take]; omega) hp, mrks_set _ _, ?_⟩
  · show (1 : Int) ≤ (locsR k : Int); omega
  · show (locsR k : Int) ≤ 4; omega
  · show (mvsL _ _ _ _).length ≤ 8
    rw [mvsL_len (by omega)]; omega
  · show (mrks _ _).length ≤ 4; omega
theorem made_ok {m : Ext} (h : made m) : extOk m := by
  refine ⟨by rw [h.al]; simp [max63], ?_, ?_, fun v hv => ?_, ?_, fun x hx => ?_⟩
  · have := h.mal; simp only [max63]; omega
  · have := h.vl; simp only [max63]; omega
  · have := (h.v v hv).nm; simp only [max63]; omega
  · have := h.ml; simp only [max63]; omega
  · have hg := h.mv x hx
    refine ⟨hg.gok, ?_, fun u hu => ?_⟩
    · rcases hg.us with e | ⟨u, e, _⟩ <;> rw [e] <;> simp [max63]
    · rcases hg.us with e | ⟨u', e, h1⟩
      · rw [e] at hu; simp at hu
      · rw [e] at hu
        simp only [List.mem_singleton] at hu
        subst hu
        exact h1.2.2.2
theorem mvErr_of {m : Ext} (h : made m) {p : Option Mv} {x : Mv} (hx : mvGood m.locs m.vars.length x) (hp : ∀ y, p = some y → leMv y x) : mvErr m p x = 0 := by
  have h1 := hx.frm
  have h2 := hx.to
  have h3 := hx.ev
  unfold mvErr
  rw [if_neg (by omega), if_neg, if_neg, hx.g]
  · simp only [ne_eq, not_true_eq_false, if_false]
    rcases hx.us with e | ⟨u, e, h4, h5, h6, _⟩
    · rw [e]; rfl
    · rw [e]
      simp only [updErr]
      rw [if_neg (by omega), if_neg (by simp), h6]
      simp
  · cases p with
    | none => simp
    | some y =>
      have := hp y rfl
      unfold leMv at this
      simpa using this
  · rw [h.al]
    simp only [List.mem_cons, List.mem_nil_iff, or_false]
    exact not_not_intro h3
theorem mvsErr_of {m : Ext} (h : made m) : ∀ {l : List Mv} {p : Option Mv}, (∀ x ∈ l, mvGood m.locs m.vars.length x) → l.Pairwise leMv → (∀ y, p = some y → ∀ x ∈ l, leMv y x) → mvsErr m p l = 0
  | [], _, _, _, _ => rfl
  | x :: r, p, hx, hs, hp => by
    rw [List.pairwise_cons] at hs
    simp only [mvsErr]
    rw [mvErr_of h (hx x (by simp)) fun y e => hp y e x (by simp)]
    simp only [ne_eq, not_true_eq_false, if_false]
    refine mvsErr_of h (fun y hy => hx y (by simp [hy])) hs.2 fun y e z hz => ?_
    simp only [Option.some.injEq] at e
    subst e
    exact hs.1 z hz
theorem made_chk {m : Ext} (h : made m) : chk m = 0 := by
  have h1 := h.lo
  have h2 := h.ml
  unfold chk
  rw [h.al, h.ini, h.ma, h.ve, mvsErr_of h h.mv h.sorted (by simp)]
  rw [if_neg (by decide), if_neg (by omega), if_neg (by decide), if_neg (by decide), if_neg (by omega)]
end Go.AI

namespace Go.AI
open Go.Proofs
set_option maxRecDepth 20000
/-- Right values of a sketched automaton. -/
structure valsOk (m : Ext) (l : List Int) : Prop where
  len : l.length = m.vars.length
  w : within m.vars l = true
theorem within_get : ∀ {vs : List Vr} {l : List Int}, within vs l = true → ∀ (i : Nat) (h : i < vs.length) (h' : i < l.length), vs[i].low ≤ l[i] ∧ l[i] ≤ vs[i].high
  | v :: r, x :: ys, h, i, hi, hi' => by
    simp only [within, Bool.and_eq_true, decide_eq_true_eq] at h
    cases i with
    | zero => exact ⟨h.1.1, h.1.2⟩
    | succ i => exact within_get h.2 i (by simpa using hi) (by simpa using hi')
  | [], _, _, i, hi, _ => absurd hi (Nat.not_lt_zero _)
  | _ :: _, [], _, i, _, hi => absurd hi (Nat.not_lt_zero _)
theorem within_setB : ∀ {vs : List Vr} {l : List Int} {i : Nat} {w : Int} (hi : i < vs.length), within vs l = true → within vs (l.set i w) = (decide (vs[i].low ≤ w) && decide (w ≤ vs[i].high))
  | v :: r, x :: ys, 0, w, hi, h => by
    simp only [within, Bool.and_eq_true, decide_eq_true_eq] at h
    simp only [List.set_cons_zero, within, h.2, Bool.and_true, List.getElem_cons_zero]
  | v :: r, x :: ys, i + 1, w, hi, h => by
    simp only [within, Bool.and_eq_true, decide_eq_true_eq] at h
    simp only [List.set_cons_succ, within, List.getElem_cons_succ]
    rw [within_setB (by simpa using hi) h.2]
    simp [h.1]
  | _ :: _, [], i, w, hi, h => by simp [within] at h
theorem vals_small {m : Ext} (hm : made m) {l : List Int} (h : valsOk m l) : l.any (fun n => largeB n 65536) = false := by
  rw [List.any_eq_false]
  intro x hx
  obtain ⟨i, hi, rfl⟩ := List.mem_iff_getElem.1 hx
  have hiv : i < m.vars.length := by rw [← h.len]; exact hi
  have h1 := within_get h.w i hiv hi
  have h2 := hm.v _ (List.getElem_mem hiv)
  have := h2.lo
  have := h2.hi
  simp only [largeB, Bool.or_eq_true, decide_eq_true_eq]
  omega
theorem eval_err {m : Ext} (hm : made m) {l : List Int} (h : valsOk m l) {x : Ex} {k : Int} (hx : typedX x m.vars.length k = 0) : (evalX x l).2 = 0 ∨ (evalX x l).2 = 17 := by
  have hc : (checkX x l.length).2 = 0 := by
    rw [h.len]
    unfold typedX at hx
    split at hx
    · cases hx
    · exact hx
  unfold evalX
  rw [if_neg (by rw [hc]; simp), if_neg (by rw [vals_small hm h]; simp)]
  split
  · exact .inr rfl
  · exact .inl rfl
def choD : Option Nat → Int
  | none => -1
  | some k => k
theorem step25 (O : List Heap) (m : Ext) (s : Sta) (ev : Int) (hm : made m) (hs : valsOk m s.vals) : ASpec Tryd.prog 25 [extD m, staD s, ii ev] O (.tup [staD (stepR m s ev).1, bb (stepR m s ev).2.1, ii (stepR m s ev).2.2]) [] O := by
  have hok := made_ok hm
  have hml := hm.ml
  have hvl := hm.vl
  have hlm : s.vals.length ≤ max63 := by rw [hs.len]; simp only [max63]; omega
  have hlt := @chs_lt s ev m.moves 0 none false
  have hee : ∀ {x : Ex} {k : Int}, typedX x m.vars.length k = 0 → (evalX x s.vals).2 = 0 ∨ (evalX x s.vals).2 = 17 := fun h => eval_err hm hs h
  have hw := hs.w
  have hlen := hs.len
  generalize hR : stepR m s ev = R
  unfold stepR at hR
  generalize hC : chs s ev m.moves 0 none false = C at *
  obtain ⟨sl, sv⟩ := s
  simp only at hlm hee hw hlen hR
  refine aspec_stop [11, 24] TrydT_ok Tryd.func25 rfl Tryd.call25 Tryd.ntmps25 (Nat.le_of_ble_eq_true rfl) fun E => ?_
  refine g_run TrydT_ok Tryd.func25 ?_
  refine g_loop ?_
  refine rch_loop2 (fun x : Nat × Option Nat × Bool => [(2, ii ev), (3, .own 0 3 0 0), (4, .own 0 4 0 0), (6, .own 0 6 0 0), (7, bb false), (8, ii 0), (9, ii (choD x.2.1)), (10, bb x.2.2), (11, ii x.1)]) (fun _ => [(3, .box (extC m)), (4, .box [ii sl, ints sv]), (6, .box [ii 0, .i (.v (.slice none 0 0))])]) (fun _ => O) 127
    (fun x => x.1 ≤ m.moves.length ∧ C = chs ⟨sl, sv⟩ ev (m.moves.drop x.1) x.1 x.2.1 x.2.2) (fun x => m.moves.length - x.1) (0, none, false) ⟨Nat.zero_le _, hC.symm⟩ ⟨rfl, rfl, rfl, rfl, rfl, rfl, rfl, rfl, rfl, trivial⟩ rfl ⟨rfl, rfl, rfl, trivial⟩ rfl rfl ?_
  rintro ⟨i, out, two⟩ ⟨hi, hno⟩ ih
  simp only at hi hno
  clear hC
  refine g_run TrydT_ok Tryd.func25 ?_
  first | refine g_cnd TrydT_ok Tryd.func25 rfl (fun g1 => ?_) (fun g1 => ?_) | refine g_know TrydT_ok Tryd.func25 rfl (fun g1 => ?_) (fun g1 => ?_) | refine s_know TrydT_ok (fun g1 => ?_) (fun g1 => ?_)
  · have h1 : i < m.moves.length := by simpa using g1
    clear g1
    have hd : m.moves.drop i = m.moves[i] :: m.moves.drop (i + 1) := List.drop_eq_getElem_cons h1
    have hg : (m.moves.map mvI)[(i : Int).toNat]? = some (mvI m.moves[i]) := get_mapZ h1
    have hgd := hm.mv _ (List.getElem_mem h1)
    generalize m.moves[i] = x at *
    have hxe := hee hgd.g
    have hev := fun O => evaluate51A O x.g sv hgd.gok hlm
    rw [hd] at hno
    simp only [chs] at hno
    refine g_drawn TrydT_ok Tryd.func25 mixedT rfl ?_
    first | refine g_need TrydT_ok Tryd.func25 (by exact ⟨by omega, by show (i : Int) < (m.moves.length : Int); omega⟩) ?_ | refine s_need TrydT_ok (by exact ⟨by omega, by show (i : Int) < (m.moves.length : Int); omega⟩) ?_
    first | refine g_elem TrydT_ok Tryd.func25 (hg) ?_ | refine s_elem TrydT_ok (hg) ?_
    first | refine g_cnd TrydT_ok Tryd.func25 rfl (fun h2 => ?_) (fun h2 => ?_) | refine g_know TrydT_ok Tryd.func25 rfl (fun h2 => ?_) (fun h2 => ?_) | refine s_know TrydT_ok (fun h2 => ?_) (fun h2 => ?_)
    · have h2 := bneT h2
      rw [if_pos (.inl h2)] at hno
      refine e_done TrydT_ok Tryd.func25 (by kernel_rfl) ?_
      repeat (first | refine g_cnd TrydT_ok Tryd.func25 rfl (fun _ => ?_) (fun h => absurd h (by decide)) | refine g_cnd TrydT_ok Tryd.func25 rfl (fun h => absurd h (by decide)) (fun _ => ?_) | refine g_know TrydT_ok Tryd.func25 rfl (fun _ => ?_) (fun h => absurd h (by decide)) | refine g_know TrydT_ok Tryd.func25 rfl (fun h => absurd h (by decide)) (fun _ => ?_) | refine s_know TrydT_ok (fun _ => ?_) (fun h => absurd h (by decide)) | refine s_know TrydT_ok (fun h => absurd h (by decide)) (fun _ => ?_))
      refine g_loop ?_
      exact ih (i + 1, out, two) _ _ ⟨h1, hno⟩ (by simp only; omega) ⟨rfl, rfl, rfl, rfl, rfl, rfl, rfl, rfl, congrArg ii (wsucc (n := 8) (by omega) (by decide)), trivial⟩ rfl ⟨rfl, rfl, rfl, trivial⟩ rfl rfl
    have h2 := bneF h2
    first | refine g_need TrydT_ok Tryd.func25 (by exact ⟨by omega, by show (i : Int) < (m.moves.length : Int); omega⟩) ?_ | refine s_need TrydT_ok (by exact ⟨by omega, by show (i : Int) < (m.moves.length : Int); omega⟩) ?_
    first | refine g_elem TrydT_ok Tryd.func25 (hg) ?_ | refine s_elem TrydT_ok (hg) ?_
    refine e_done TrydT_ok Tryd.func25 (by kernel_rfl) ?_
    first | refine g_cnd TrydT_ok Tryd.func25 rfl (fun h3 => ?_) (fun h3 => ?_) | refine g_know TrydT_ok Tryd.func25 rfl (fun h3 => ?_) (fun h3 => ?_) | refine s_know TrydT_ok (fun h3 => ?_) (fun h3 => ?_)
    · have h3 := bneT h3
      rw [if_pos (.inr h3)] at hno
      refine g_loop ?_
      exact ih (i + 1, out, two) _ _ ⟨h1, hno⟩ (by simp only; omega) ⟨rfl, rfl, rfl, rfl, rfl, rfl, rfl, rfl, congrArg ii (wsucc (n := 8) (by omega) (by decide)), trivial⟩ rfl ⟨rfl, rfl, rfl, trivial⟩ rfl rfl
    have h3 := bneF h3
    rw [if_neg (by rintro (h | h); exact h h2; exact h h3)] at hno
    generalize evalX x.g sv = V at *
    obtain ⟨v, ve⟩ := V
    simp only at hno hxe hev
    refine g_drawn TrydT_ok Tryd.func25 mixedT rfl ?_
    first | refine g_need TrydT_ok Tryd.func25 (by exact ⟨by omega, by show (i : Int) < (m.moves.length : Int); omega⟩) ?_ | refine s_need TrydT_ok (by exact ⟨by omega, by show (i : Int) < (m.moves.length : Int); omega⟩) ?_
    first | refine g_elem TrydT_ok Tryd.func25 (hg) ?_ | refine s_elem TrydT_ok (hg) ?_
    first | refine g_call TrydT_ok Tryd.func25 (hev _) rfl rfl rfl rfl rfl ?_ | refine s_callq TrydT_ok (fun _ => hev _) rfl rfl rfl ?_
    refine e_done TrydT_ok Tryd.func25 (by kernel_rfl) ?_
    first | refine g_cnd TrydT_ok Tryd.func25 rfl (fun h4 => ?_) (fun h4 => ?_) | refine g_know TrydT_ok Tryd.func25 rfl (fun h4 => ?_) (fun h4 => ?_) | refine s_know TrydT_ok (fun h4 => ?_) (fun h4 => ?_)
    · have h4 := bneT h4
      rw [if_pos h4] at hno
      subst hno
      simp only at hR
      subst hR
      have : ve = 17 := by rcases hxe with h | h; exact absurd h h4; exact h
      subst this
      refine g_ret_co TrydT_ok (r := _) rfl rfl rfl trivial rfl rfl ?_
      exact coZ
    have h4 := bneF h4
    rw [if_neg (by rw [h4]; simp)] at hno
    first | refine g_cnd TrydT_ok Tryd.func25 rfl (fun h5 => ?_) (fun h5 => ?_) | refine g_know TrydT_ok Tryd.func25 rfl (fun h5 => ?_) (fun h5 => ?_) | refine s_know TrydT_ok (fun h5 => ?_) (fun h5 => ?_)
    · have h5 := beqT h5
      rw [if_pos h5] at hno
      cases out with
      | none =>
        first | refine g_cnd TrydT_ok Tryd.func25 rfl (fun h6 => ?_) (fun h6 => ?_) | refine g_know TrydT_ok Tryd.func25 rfl (fun h6 => ?_) (fun h6 => ?_) | refine s_know TrydT_ok (fun h6 => ?_) (fun h6 => ?_)
        · exact absurd (show (-1 : Int) ≥ 0 from of_decide_eq_true h6) (by decide)
        refine g_loop ?_
        exact ih (i + 1, some i, two) _ _ ⟨h1, hno⟩ (by simp only; omega) ⟨rfl, rfl, rfl, rfl, rfl, rfl, rfl, rfl, congrArg ii (wsucc (n := 8) (by omega) (by decide)), trivial⟩ rfl ⟨rfl, rfl, rfl, trivial⟩ rfl rfl
      | some c =>
        first | refine g_cnd TrydT_ok Tryd.func25 rfl (fun h6 => ?_) (fun h6 => ?_) | refine g_know TrydT_ok Tryd.func25 rfl (fun h6 => ?_) (fun h6 => ?_) | refine s_know TrydT_ok (fun h6 => ?_) (fun h6 => ?_)
        · repeat (first | refine g_cnd TrydT_ok Tryd.func25 rfl (fun _ => ?_) (fun h => absurd h (by decide)) | refine g_cnd TrydT_ok Tryd.func25 rfl (fun h => absurd h (by decide)) (fun _ => ?_) | refine g_know TrydT_ok Tryd.func25 rfl (fun _ => ?_) (fun h => absurd h (by decide)) | refine g_know TrydT_ok Tryd.func25 rfl (fun h => absurd h (by decide)) (fun _ => ?_) | refine s_know TrydT_ok (fun _ => ?_) (fun h => absurd h (by decide)) | refine s_know TrydT_ok (fun h => absurd h (by decide)) (fun _ => ?_))
          refine g_loop ?_
          exact ih (i + 1, some i, true) _ _ ⟨h1, hno⟩ (by simp only; omega) ⟨rfl, rfl, rfl, rfl, rfl, rfl, rfl, rfl, congrArg ii (wsucc (n := 8) (by omega) (by decide)), trivial⟩ rfl ⟨rfl, rfl, rfl, trivial⟩ rfl rfl
        · have h6 : ¬ (c : Int) ≥ 0 := of_decide_eq_false h6
          omega
    · have h5 := beqF h5
      rw [if_neg h5] at hno
      refine g_loop ?_
      exact ih (i + 1, out, two) _ _ ⟨h1, hno⟩ (by simp only; omega) ⟨rfl, rfl, rfl, rfl, rfl, rfl, rfl, rfl, congrArg ii (wsucc (n := 8) (by omega) (by decide)), trivial⟩ rfl ⟨rfl, rfl, rfl, trivial⟩ rfl rfl
  · have h1 : m.moves.length ≤ i := by simpa using g1
    clear g1
    rw [List.drop_eq_nil_of_le h1] at hno
    simp only [chs] at hno
    clear ih
    refine g_stop ?_
    refine g_run TrydT_ok Tryd.func25 ?_
    refine g_go TrydT_ok Tryd.func25 ?_
    cases two with
    | true =>
      rw [if_pos rfl] at hno
      subst hno
      simp only at hR
      subst hR
      first | refine g_cnd TrydT_ok Tryd.func25 rfl (fun h7 => ?_) (fun h7 => ?_) | refine g_know TrydT_ok Tryd.func25 rfl (fun h7 => ?_) (fun h7 => ?_) | refine s_know TrydT_ok (fun h7 => ?_) (fun h7 => ?_)
      · refine g_ret_co TrydT_ok (r := _) rfl rfl rfl trivial rfl rfl ?_
        exact coZ
      · exact absurd h7 (by simp)
    | false =>
      rw [if_neg (by simp)] at hno
      subst hno
      simp only at hR hlt
      first | refine g_cnd TrydT_ok Tryd.func25 rfl (fun h7 => ?_) (fun h7 => ?_) | refine g_know TrydT_ok Tryd.func25 rfl (fun h7 => ?_) (fun h7 => ?_) | refine s_know TrydT_ok (fun h7 => ?_) (fun h7 => ?_)
      · exact absurd h7 (by simp)
      cases out with
      | none =>
        simp only at hR
        subst hR
        first | refine g_cnd TrydT_ok Tryd.func25 rfl (fun h8 => ?_) (fun h8 => ?_) | refine g_know TrydT_ok Tryd.func25 rfl (fun h8 => ?_) (fun h8 => ?_) | refine s_know TrydT_ok (fun h8 => ?_) (fun h8 => ?_)
        · refine g_ret_co TrydT_ok (r := _) rfl rfl rfl trivial rfl rfl ?_
          exact coZ
        · exact absurd (show (-1 : Int) < 0 by decide) (of_decide_eq_false h8)
      | some c =>
        have hc : c < m.moves.length := by have := hlt (k := c) (by simp) rfl; omega
        simp only at hR
        rw [if_neg (by simp), List.getElem?_eq_getElem hc] at hR
        simp only at hR
        have hg : (m.moves.map mvI)[(c : Int).toNat]? = some (mvI m.moves[c]) := get_mapZ hc
        have hgd := hm.mv _ (List.getElem_mem hc)
        generalize m.moves[c] = x at *
        first | refine g_cnd TrydT_ok Tryd.func25 rfl (fun h2 => ?_) (fun h2 => ?_) | refine g_know TrydT_ok Tryd.func25 rfl (fun h2 => ?_) (fun h2 => ?_) | refine s_know TrydT_ok (fun h2 => ?_) (fun h2 => ?_)
        · have h2 : (c : Int) < 0 := of_decide_eq_true h2
          omega
        have hcc : 0 ≤ (c : Int) ∧ (c : Int) < (m.moves.length : Int) := by omega
        first | refine g_need TrydT_ok Tryd.func25 (by exact hcc) ?_ | refine s_need TrydT_ok (by exact hcc) ?_
        first | refine g_elem TrydT_ok Tryd.func25 (hg) ?_ | refine s_elem TrydT_ok (hg) ?_
        refine g_drawn TrydT_ok Tryd.func25 mixedT rfl ?_
        refine s_old TrydT_ok ?_
        refine d_need TrydT_ok (by exact ⟨by show (0 + sv.length) * 8 ≤ 140737488355328; omega, by show 0 + sv.length ≤ 9223372036854775807; omega⟩) ?_
        refine d_mod TrydT_ok (p := ⟨[(84, .osl 0 84), (81, .dead)], [(84, .arr 3 1 (0 + sv.length) ([] ++ sv.map fun x => [vi x]) true)], some 81⟩) rfl rfl rfl ?_
        refine d_mod TrydT_ok (p := ⟨[], [(15, .box [ii x.to, .osl 0 84])], none⟩) rfl rfl rfl ?_
        refine d_done TrydT_ok Tryd.func25 (by kernel_rfl) (GM.h ?_)
        refine g_loop ?_
        refine rch_meet (l := [(3, .own 0 3 0 0), (4, .own 0 4 0 0), (6, .own 0 6 0 0), (7, bb false), (8, ii 0), (14, .own 0 14 0 0), (15, .own 0 15 0 0), (16, ii 0)]) (Hv := [(3, .box (extC m)), (4, .box [ii sl, ints sv]), (6, .box [ii 0, .i (.v (.slice none 0 0))]), (14, .box [ii x.frm, ii x.ev, ii x.to, ii x.g.op, ii x.g.vl, ii x.g.ix, exs x.g.args, upds x.us]), (15, .box [ii x.to, .osl 0 84]), (84, oints sv)]) (n := 127) ?_ ⟨rfl, rfl, rfl, rfl, rfl, rfl, rfl, rfl, trivial⟩ rfl ⟨rfl, rfl, rfl, rfl, rfl, by show some (Ob.arr 3 1 (0 + sv.length) ([] ++ sv.map fun x => [vi x]) true) = _; rw [Nat.zero_add, List.nil_append], trivial⟩ rfl rfl
        have hwi := fun O xs => within52 O m.vars xs hok.va
        rcases hgd.us with hu | ⟨u, hu, hu0, hu1, hu2, hu3⟩
        · rw [hu] at hR ⊢
          simp only [updR] at hR
          subst hR
          refine g_run TrydT_ok Tryd.func25 ?_
          first | refine g_cnd TrydT_ok Tryd.func25 rfl (fun h => absurd h (by decide)) (fun _ => ?_) | refine g_know TrydT_ok Tryd.func25 rfl (fun h => absurd h (by decide)) (fun _ => ?_) | refine s_know TrydT_ok (fun h => absurd h (by decide)) (fun _ => ?_)
          refine g_stop ?_
          refine rch_wk (wk_freeze 84 rfl rfl) ?_
          refine rch_wk (wk_imm rfl) ?_
          refine g_run TrydT_ok Tryd.func25 ?_
          refine g_go TrydT_ok Tryd.func25 ?_
          first | refine g_call TrydT_ok Tryd.func25 (hwi _ sv) rfl rfl rfl rfl rfl ?_ | refine s_callq TrydT_ok (fun _ => hwi _ sv) rfl rfl rfl ?_
          first | refine g_cnd TrydT_ok Tryd.func25 rfl (fun h9 => ?_) (fun h9 => ?_) | refine g_know TrydT_ok Tryd.func25 rfl (fun h9 => ?_) (fun h9 => ?_) | refine s_know TrydT_ok (fun h9 => ?_) (fun h9 => ?_)
          · have h9 := notT h9
            rw [hw] at h9
            cases h9
          refine g_ret TrydT_ok (r := .tup [staD ⟨x.to, sv⟩, bb true, ii 0]) rfl rfl rfl trivial rfl rfl ?_
          rfl
        · rw [hu] at hR ⊢
          have huv : u.v.toNat < m.vars.length := by omega
          simp only [updR] at hR
          rw [List.getElem?_eq_getElem huv] at hR
          simp only at hR
          have hue := hee hu2
          have hev := fun O => evaluate51A O u.x sv hu3 hlm
          generalize evalX u.x sv = V at *
          obtain ⟨w, we⟩ := V
          simp only at hR hue hev
          have hws := within_setB (w := w) huv hw
          refine g_run TrydT_ok Tryd.func25 ?_
          first | refine g_cnd TrydT_ok Tryd.func25 rfl (fun h8 => ?_) (fun h8 => ?_) | refine g_know TrydT_ok Tryd.func25 rfl (fun h8 => ?_) (fun h8 => ?_) | refine s_know TrydT_ok (fun h8 => ?_) (fun h8 => ?_)
          rotate_left
          · exact absurd (show (0 : Int) < (1 : Nat) by decide) (of_decide_eq_false h8)
          refine g_drawn TrydT_ok Tryd.func25 mixedT rfl ?_
          first | refine g_need TrydT_ok Tryd.func25 (by exact ⟨by decide, (by decide : (0 : Int) < (1 : Nat))⟩) ?_ | refine s_need TrydT_ok (by exact ⟨by decide, (by decide : (0 : Int) < (1 : Nat))⟩) ?_
          first | refine g_elem TrydT_ok Tryd.func25 (rfl) ?_ | refine s_elem TrydT_ok (rfl) ?_
          first | refine g_call TrydT_ok Tryd.func25 (hev _) rfl rfl rfl rfl rfl ?_ | refine s_callq TrydT_ok (fun _ => hev _) rfl rfl rfl ?_
          refine e_done TrydT_ok Tryd.func25 (by kernel_rfl) ?_
          first | refine g_cnd TrydT_ok Tryd.func25 rfl (fun h9 => ?_) (fun h9 => ?_) | refine g_know TrydT_ok Tryd.func25 rfl (fun h9 => ?_) (fun h9 => ?_) | refine s_know TrydT_ok (fun h9 => ?_) (fun h9 => ?_)
          · have h9 := bneT h9
            rw [if_pos (.inl h9)] at hR
            subst hR
            have : we = 17 := by rcases hue with h | h; exact absurd h h9; exact h
            subst this
            refine g_ret_co TrydT_ok (r := _) rfl rfl rfl trivial rfl rfl ?_
            exact coZ
          have h9 := bneF h9
          refine g_drawn TrydT_ok Tryd.func25 mixedT rfl ?_
          first | refine g_need TrydT_ok Tryd.func25 (by exact ⟨by decide, (by decide : (0 : Int) < (1 : Nat))⟩) ?_ | refine s_need TrydT_ok (by exact ⟨by decide, (by decide : (0 : Int) < (1 : Nat))⟩) ?_
          first | refine g_elem TrydT_ok Tryd.func25 (rfl) ?_ | refine s_elem TrydT_ok (rfl) ?_
          first | refine g_need TrydT_ok Tryd.func25 (by exact ⟨hu0, by show u.v < (sv.length : Int); omega⟩) ?_ | refine s_need TrydT_ok (by exact ⟨hu0, by show u.v < (sv.length : Int); omega⟩) ?_
          refine s_put TrydT_ok rfl rfl rfl ?_
          refine e_done TrydT_ok Tryd.func25 (by kernel_rfl) ?_
          refine g_loop ?_
          refine g_run TrydT_ok Tryd.func25 ?_
          first | refine g_cnd TrydT_ok Tryd.func25 rfl (fun h10 => ?_) (fun h10 => ?_) | refine g_know TrydT_ok Tryd.func25 rfl (fun h10 => ?_) (fun h10 => ?_) | refine s_know TrydT_ok (fun h10 => ?_) (fun h10 => ?_)
          · exact absurd (show (1 : Int) < (1 : Nat) from of_decide_eq_true h10) (by decide)
          refine g_stop ?_
          refine rch_meet (l := [(3, .own 0 3 0 0), (6, .own 0 6 0 0), (7, bb false), (8, ii 0), (15, .own 0 15 0 0)]) (Hv := [(3, .box (extC m)), (6, .box [ii 0, .i (.v (.slice none 0 0))]), (15, .box [ii x.to, .osl 0 84]), (84, oints (sv.set u.v.toNat w))]) (n := 127) ?_ ⟨rfl, rfl, rfl, rfl, rfl, trivial⟩ rfl ⟨rfl, rfl, rfl, ?_, trivial⟩ rfl rfl
          rotate_left
          · show some (Ob.arr 3 1 sv.length ((sv.map fun x => [vi x]).set u.v.toNat [vi w]) true) = _
            simp [List.map_set]
          refine rch_wk (wk_freeze 84 rfl rfl) ?_
          refine rch_wk (wk_imm rfl) ?_
          refine g_run TrydT_ok Tryd.func25 ?_
          refine g_go TrydT_ok Tryd.func25 ?_
          first | refine g_call TrydT_ok Tryd.func25 (hwi _ (sv.set u.v.toNat w)) rfl rfl rfl rfl rfl ?_ | refine s_callq TrydT_ok (fun _ => hwi _ (sv.set u.v.toNat w)) rfl rfl rfl ?_
          by_cases hin : w < m.vars[u.v.toNat].low ∨ w > m.vars[u.v.toNat].high
          · rw [if_pos (by rcases hin with h | h; exact .inr (.inl h); exact .inr (.inr h))] at hR
            subst hR
            first | refine g_cnd TrydT_ok Tryd.func25 rfl (fun h11 => ?_) (fun h11 => ?_) | refine g_know TrydT_ok Tryd.func25 rfl (fun h11 => ?_) (fun h11 => ?_) | refine s_know TrydT_ok (fun h11 => ?_) (fun h11 => ?_)
            · refine g_ret_co TrydT_ok (r := _) rfl rfl rfl trivial rfl rfl ?_
              exact coZ
            · have h11 := notF h11
              rw [hws, Bool.and_eq_true, decide_eq_true_eq, decide_eq_true_eq] at h11
              omega
          · rw [if_neg (by rintro (h | h); exact h h9; exact hin h)] at hR
            subst hR
            first | refine g_cnd TrydT_ok Tryd.func25 rfl (fun h11 => ?_) (fun h11 => ?_) | refine g_know TrydT_ok Tryd.func25 rfl (fun h11 => ?_) (fun h11 => ?_) | refine s_know TrydT_ok (fun h11 => ?_) (fun h11 => ?_)
            · have h11 := notT h11
              rw [hws, Bool.and_eq_false_iff, decide_eq_false_iff_not, decide_eq_false_iff_not] at h11
              omega
            · refine g_ret TrydT_ok (r := .tup [staD ⟨x.to, sv.set u.v.toNat w⟩, bb true, ii 0]) rfl rfl rfl trivial rfl rfl ?_
              rfl
end Go.AI

namespace Go.AI
open Go.Proofs
set_option maxRecDepth 20000
theorem stepR_err {m : Ext} {s : Sta} {ev : Int} (h : (stepR m s ev).2.2 ≠ 0) : (stepR m s ev).1 = zeroS ∧ (stepR m s ev).2.1 = false := by
  unfold stepR at h ⊢
  split
  · exact ⟨rfl, rfl⟩
  · split
    · exact ⟨rfl, rfl⟩
    · split
      · exact ⟨rfl, rfl⟩
      · split
        · exact ⟨rfl, rfl⟩
        · exfalso
          simp_all
theorem made_start {m : Ext} (h : made m) : begR m = (startR m, 0) := by
  unfold begR
  rw [if_neg (by rw [made_chk h]; simp)]
theorem made_right {m : Ext} (h : made m) : extRight m := chk_right (made_chk h)
theorem okS_vals {m : Ext} (hr : extRight m) {s : Sta} (h : okS m s) : valsOk m s.vals := ⟨(okS_bounds hr h).2.2.2.1, h.2⟩
theorem okS_len {m : Ext} (hr : extRight m) {s : Sta} (h : okS m s) : s.vals.length ≤ max63 := by
  have := (okS_bounds hr h).2.2.1
  simp only [max63]
  omega
abbrev skC' (k : Sk) : List D := [u8D k.locs, u8D k.marks, r8s k.rngs, linsD k.lines]
theorem runs5 {g : Nat} (hg : IsTab g) {ty : TypeId} {fr : Nat × Nat} (O : List Heap) (k : Sk) (w : List Int) (hk : skOk k) (hw : w.length ≤ max63) : ASpecT g (ptab ty fr) Tryd.prog 5 [skD k, ints w] O (bb true) [] O := by
  have hkn := fun O => known11 hg (ty := ty) (fr := fr) O
  have hmk := fun O => make16 O k hk
  have hm := make_made hk
  generalize makeR k = m at *
  have hok := made_ok hm
  have hr := made_right hm
  have hv16 : m.vars.length ≤ 16 := by have := hm.vl; omega
  have hbeg := fun O => begin20 O m hok
  simp only [made_start hm] at hbeg
  have hrun := fun O => run21 O m w hok hw
  have hst := fun O => start23 O m hv16
  have hsok := start_ok hr
  have hsame := fun O => same22 O (startR m) (startR m) (okS_len hr hsok)
  have hR : runR m w = if w.any (fun ev => decide (ev ∉ m.alpha)) then (zeroS, 0, 9) else runL m w (startR m) 0 := by
    unfold runR
    rw [if_neg (by rw [made_chk hm]; simp)]
  generalize runR m w = R at *
  refine aspecT_stop [8, 14, 21] TrydT_ok Tryd.func5 rfl Tryd.call5 Tryd.ntmps5 (Nat.le_of_ble_eq_true rfl) fun E hE => ?_
  refine g_run TrydT_ok Tryd.func5 ?_
  refine g_callT TrydT_ok Tryd.func5 hE (hkn _) rfl rfl rfl rfl rfl rfl ?_
  repeat (first | refine g_cnd TrydT_ok Tryd.func5 rfl (fun _ => ?_) (fun h => absurd h (by decide)) | refine g_cnd TrydT_ok Tryd.func5 rfl (fun h => absurd h (by decide)) (fun _ => ?_) | refine g_know TrydT_ok Tryd.func5 rfl (fun _ => ?_) (fun h => absurd h (by decide)) | refine g_know TrydT_ok Tryd.func5 rfl (fun h => absurd h (by decide)) (fun _ => ?_) | refine s_know TrydT_ok (fun _ => ?_) (fun h => absurd h (by decide)) | refine s_know TrydT_ok (fun h => absurd h (by decide)) (fun _ => ?_))
  first | refine g_cnd TrydT_ok Tryd.func5 rfl (fun h1 => ?_) (fun h1 => ?_) | refine g_know TrydT_ok Tryd.func5 rfl (fun h1 => ?_) (fun h1 => ?_) | refine s_know TrydT_ok (fun h1 => ?_) (fun h1 => ?_)
  · refine g_callT TrydT_ok Tryd.func5 hE (hkn _) rfl rfl rfl rfl rfl rfl ?_
    refine g_ret TrydT_ok (r := bb true) rfl rfl rfl trivial rfl rfl ?_
    rfl
  have h1 : w.length ≤ 10 := by have := of_decide_eq_false h1; omega
  first | refine g_call TrydT_ok Tryd.func5 (hmk _) rfl rfl rfl rfl rfl ?_ | refine s_callq TrydT_ok (fun _ => hmk _) rfl rfl rfl ?_
  first | refine g_call TrydT_ok Tryd.func5 (hbeg _) rfl rfl rfl rfl rfl ?_ | refine s_callq TrydT_ok (fun _ => hbeg _) rfl rfl rfl ?_
  first | refine g_call TrydT_ok Tryd.func5 (hrun _) rfl rfl rfl rfl rfl ?_ | refine s_callq TrydT_ok (fun _ => hrun _) rfl rfl rfl ?_
  refine g_drawn TrydT_ok Tryd.func5 mixedT rfl ?_
  first | refine g_call TrydT_ok Tryd.func5 (hst _) rfl rfl rfl rfl rfl ?_ | refine s_callq TrydT_ok (fun _ => hst _) rfl rfl rfl ?_
  first | refine g_call TrydT_ok Tryd.func5 (hsame _) rfl rfl rfl rfl rfl ?_ | refine s_callq TrydT_ok (fun _ => hsame _) rfl rfl rfl ?_
  first | refine g_cnd TrydT_ok Tryd.func5 rfl (fun h2 => ?_) (fun h2 => ?_) | refine g_know TrydT_ok Tryd.func5 rfl (fun h2 => ?_) (fun h2 => ?_) | refine s_know TrydT_ok (fun h2 => ?_) (fun h2 => ?_)
  · simp at h2
  refine e_done TrydT_ok Tryd.func5 (by kernel_rfl) ?_
  repeat (first | refine g_cnd TrydT_ok Tryd.func5 rfl (fun _ => ?_) (fun h => absurd h (by decide)) | refine g_cnd TrydT_ok Tryd.func5 rfl (fun h => absurd h (by decide)) (fun _ => ?_) | refine g_know TrydT_ok Tryd.func5 rfl (fun _ => ?_) (fun h => absurd h (by decide)) | refine g_know TrydT_ok Tryd.func5 rfl (fun h => absurd h (by decide)) (fun _ => ?_) | refine s_know TrydT_ok (fun _ => ?_) (fun h => absurd h (by decide)) | refine s_know TrydT_ok (fun h => absurd h (by decide)) (fun _ => ?_))
  refine g_stop ?_
  refine rch_meet (l := [(1, ints w), (5, .own 0 5 0 0), (8, .own 0 8 0 0), (9, ii R.2.1), (10, ii R.2.2)]) (Hv := [(5, .box (extC m)), (8, .box [ii R.1.loc, ints R.1.vals])]) (n := 117) ?_ ⟨rfl, rfl, rfl, rfl, rfl, trivial⟩ rfl ⟨rfl, rfl, trivial⟩ rfl rfl
  clear hsame h2 hmk hbeg hrun
  apply join_q (P := fun x : Int × Sta × Nat => (R = if x.1 ≠ 0 then (zeroS, 0, x.1) else (x.2.1, (x.2.2 : Int), 0)) ∧ x.2.1.vals.length ≤ max63) (s6 := fun x : Int × Sta × Nat => { σ := [(8, .own 0 8 0 0), (9, ii R.2.1), (10, ii R.2.2), (11, ii x.1), (13, .own 0 13 0 0), (14, ii x.2.2)], S := [(8, .box [ii R.1.loc, ints R.1.vals]), (13, .box [ii x.2.1.loc, ints x.2.1.vals])] :: O, n := 117 })
  · intro J
    refine g_run TrydT_ok Tryd.func5 ?_
    refine g_go TrydT_ok Tryd.func5 ?_
    refine g_loop ?_
    refine rch_loop2 (fun x : Nat × Int => [(1, ints w), (5, .own 0 5 0 0), (8, .own 0 8 0 0), (9, ii R.2.1), (10, ii R.2.2), (11, ii x.2), (12, ii x.1)]) (fun _ => [(5, .box (extC m)), (8, .box [ii R.1.loc, ints R.1.vals])]) (fun _ => O) 117
      (fun x => x.1 ≤ w.length ∧ x.2 = if (w.take x.1).any (fun ev => decide (ev ∉ m.alpha)) then 9 else 0) (fun x => w.length - x.1) (0, 0) ⟨Nat.zero_le _, rfl⟩ ⟨rfl, rfl, rfl, rfl, rfl, rfl, rfl, trivial⟩ rfl ⟨rfl, rfl, trivial⟩ rfl rfl ?_
    rintro ⟨i, e⟩ ⟨hi, he⟩ ih
    simp only at hi he
    refine g_run TrydT_ok Tryd.func5 ?_
    first | refine g_cnd TrydT_ok Tryd.func5 rfl (fun g1 => ?_) (fun g1 => ?_) | refine g_know TrydT_ok Tryd.func5 rfl (fun g1 => ?_) (fun g1 => ?_) | refine s_know TrydT_ok (fun g1 => ?_) (fun g1 => ?_)
    · have h1 : i < w.length := by simpa using g1
      clear g1
      have hg : (w.map fun x => [vi x])[(i : Int).toNat]? = some [vi w[i]] := get_mapZ (f := fun x => [vi x]) h1
      have ht : w.take (i + 1) = w.take i ++ [w[i]] := by rw [List.take_add_one, List.getElem?_eq_getElem h1]; rfl
      generalize w[i] = x at *
      refine g_drawn TrydT_ok Tryd.func5 mixedT rfl ?_
      first | refine g_need TrydT_ok Tryd.func5 (by exact ⟨by omega, by show (i : Int) < (w.length : Int); omega⟩) ?_ | refine s_need TrydT_ok (by exact ⟨by omega, by show (i : Int) < (w.length : Int); omega⟩) ?_
      first | refine g_elem TrydT_ok Tryd.func5 (hg) ?_ | refine s_elem TrydT_ok (hg) ?_
      first | refine g_call TrydT_ok Tryd.func5 (has24 _ m.alpha x hok.al) rfl rfl rfl rfl rfl ?_ | refine s_callq TrydT_ok (fun _ => has24 _ m.alpha x hok.al) rfl rfl rfl ?_
      refine e_done TrydT_ok Tryd.func5 (by kernel_rfl) ?_
      first | refine g_cnd TrydT_ok Tryd.func5 rfl (fun h2 => ?_) (fun h2 => ?_) | refine g_know TrydT_ok Tryd.func5 rfl (fun h2 => ?_) (fun h2 => ?_) | refine s_know TrydT_ok (fun h2 => ?_) (fun h2 => ?_)
      · have h2 : x ∉ m.alpha := by simpa using h2
        refine g_loop ?_
        refine ih (i + 1, 9) _ _ ⟨h1, ?_⟩ (by simp only; omega) ⟨rfl, rfl, rfl, rfl, rfl, rfl, congrArg ii (wsucc h1 hw), trivial⟩ rfl ⟨rfl, rfl, trivial⟩ rfl rfl
        rw [ht, List.any_append]
        simp [h2]
      · have h2 : x ∈ m.alpha := by simpa using h2
        refine g_loop ?_
        refine ih (i + 1, e) _ _ ⟨h1, ?_⟩ (by simp only; omega) ⟨rfl, rfl, rfl, rfl, rfl, rfl, congrArg ii (wsucc h1 hw), trivial⟩ rfl ⟨rfl, rfl, trivial⟩ rfl rfl
        rw [ht, List.any_append, he]
        simp [h2]
    · have h1 : w.length ≤ i := by simpa using g1
      clear g1 ih
      rw [List.take_of_length_le h1] at he
      refine g_stop ?_
      refine rch_meet (l := [(1, ints w), (5, .own 0 5 0 0), (8, .own 0 8 0 0), (9, ii R.2.1), (10, ii R.2.2), (11, ii e)]) (Hv := [(5, .box (extC m)), (8, .box [ii R.1.loc, ints R.1.vals])]) (n := 117) ?_ ⟨rfl, rfl, rfl, rfl, rfl, rfl, trivial⟩ rfl ⟨rfl, rfl, trivial⟩ rfl rfl
      refine g_run TrydT_ok Tryd.func5 ?_
      refine g_go TrydT_ok Tryd.func5 ?_
      first | refine g_call TrydT_ok Tryd.func5 (hst _) rfl rfl rfl rfl rfl ?_ | refine s_callq TrydT_ok (fun _ => hst _) rfl rfl rfl ?_
      refine g_loop ?_
      by_cases hany : w.any (fun ev => decide (ev ∉ m.alpha)) = true
      · rw [if_pos hany] at hR he
        subst he
        refine g_run TrydT_ok Tryd.func5 ?_
        first | refine g_cnd TrydT_ok Tryd.func5 rfl (fun h2 => ?_) (fun h2 => ?_) | refine g_know TrydT_ok Tryd.func5 rfl (fun h2 => ?_) (fun h2 => ?_) | refine s_know TrydT_ok (fun h2 => ?_) (fun h2 => ?_)
        · repeat (first | refine g_cnd TrydT_ok Tryd.func5 rfl (fun _ => ?_) (fun h => absurd h (by decide)) | refine g_cnd TrydT_ok Tryd.func5 rfl (fun h => absurd h (by decide)) (fun _ => ?_) | refine g_know TrydT_ok Tryd.func5 rfl (fun _ => ?_) (fun h => absurd h (by decide)) | refine g_know TrydT_ok Tryd.func5 rfl (fun h => absurd h (by decide)) (fun _ => ?_) | refine s_know TrydT_ok (fun _ => ?_) (fun h => absurd h (by decide)) | refine s_know TrydT_ok (fun h => absurd h (by decide)) (fun _ => ?_))
          refine g_stop ?_
          exact rch_meet (J (9, startR m, 0) ⟨by rw [hR]; rfl, okS_len hr hsok⟩) ⟨rfl, rfl, rfl, rfl, rfl, rfl, trivial⟩ rfl ⟨rfl, rfl, trivial⟩ rfl rfl
        · repeat (first | refine g_cnd TrydT_ok Tryd.func5 rfl (fun _ => ?_) (fun h => absurd h (by decide)) | refine g_cnd TrydT_ok Tryd.func5 rfl (fun h => absurd h (by decide)) (fun _ => ?_) | refine g_know TrydT_ok Tryd.func5 rfl (fun _ => ?_) (fun h => absurd h (by decide)) | refine g_know TrydT_ok Tryd.func5 rfl (fun h => absurd h (by decide)) (fun _ => ?_) | refine s_know TrydT_ok (fun _ => ?_) (fun h => absurd h (by decide)) | refine s_know TrydT_ok (fun h => absurd h (by decide)) (fun _ => ?_))
          refine g_stop ?_
          exact rch_meet (J (9, startR m, 0) ⟨by rw [hR]; rfl, okS_len hr hsok⟩) ⟨rfl, rfl, rfl, rfl, rfl, rfl, trivial⟩ rfl ⟨rfl, rfl, trivial⟩ rfl rfl
      · rw [if_neg hany] at hR he
        subst he
        refine rch_loop2 (fun x : Nat × Sta => [(1, ints w), (5, .own 0 5 0 0), (8, .own 0 8 0 0), (9, ii R.2.1), (10, ii R.2.2), (11, ii 0), (13, .own 0 13 0 0), (14, ii x.1)]) (fun x => [(5, .box (extC m)), (8, .box [ii R.1.loc, ints R.1.vals]), (13, .box [ii x.2.loc, ints x.2.vals])]) (fun _ => O) 117
          (fun x => x.1 ≤ w.length ∧ okS m x.2 ∧ R = runL m (w.drop x.1) x.2 x.1) (fun x => w.length - x.1) (0, startR m) ⟨Nat.zero_le _, hsok, hR⟩ ⟨rfl, rfl, rfl, rfl, rfl, rfl, rfl, rfl, trivial⟩ rfl ⟨rfl, rfl, rfl, trivial⟩ rfl rfl ?_
        rintro ⟨n, s⟩ ⟨hn, hs, hno⟩ ih
        simp only at hn hs hno
        clear hR
        refine g_run TrydT_ok Tryd.func5 ?_
        first | refine g_cnd TrydT_ok Tryd.func5 rfl (fun g2 => ?_) (fun g2 => ?_) | refine g_know TrydT_ok Tryd.func5 rfl (fun g2 => ?_) (fun g2 => ?_) | refine s_know TrydT_ok (fun g2 => ?_) (fun g2 => ?_)
        · have h2 : n < w.length := by simpa using g2
          clear g2
          have hd : w.drop n = w[n] :: w.drop (n + 1) := List.drop_eq_getElem_cons h2
          have hg : (w.map fun x => [vi x])[(n : Int).toNat]? = some [vi w[n]] := get_mapZ (f := fun x => [vi x]) h2
          generalize w[n] = ev at hd hg
          rw [hd] at hno
          simp only [runL] at hno
          have hstep := fun O => step25 O m s ev hm (okS_vals hr hs)
          have hso := @step_ok m s ev hr hs
          have hse := @stepR_err m s ev
          generalize stepR m s ev = q at *
          obtain ⟨qs, qp, qe⟩ := q
          simp only at hstep hso hse hno
          repeat (first | refine g_cnd TrydT_ok Tryd.func5 rfl (fun _ => ?_) (fun h => absurd h (by decide)) | refine g_cnd TrydT_ok Tryd.func5 rfl (fun h => absurd h (by decide)) (fun _ => ?_) | refine g_know TrydT_ok Tryd.func5 rfl (fun _ => ?_) (fun h => absurd h (by decide)) | refine g_know TrydT_ok Tryd.func5 rfl (fun h => absurd h (by decide)) (fun _ => ?_) | refine s_know TrydT_ok (fun _ => ?_) (fun h => absurd h (by decide)) | refine s_know TrydT_ok (fun h => absurd h (by decide)) (fun _ => ?_))
          refine g_drawn TrydT_ok Tryd.func5 mixedT rfl ?_
          first | refine g_need TrydT_ok Tryd.func5 (by exact ⟨by omega, by show (n : Int) < (w.length : Int); omega⟩) ?_ | refine s_need TrydT_ok (by exact ⟨by omega, by show (n : Int) < (w.length : Int); omega⟩) ?_
          first | refine g_elem TrydT_ok Tryd.func5 (hg) ?_ | refine s_elem TrydT_ok (hg) ?_
          first | refine g_call TrydT_ok Tryd.func5 (hstep _) rfl rfl rfl rfl rfl ?_ | refine s_callq TrydT_ok (fun _ => hstep _) rfl rfl rfl ?_
          refine s_put TrydT_ok rfl rfl rfl ?_
          refine e_done TrydT_ok Tryd.func5 (by kernel_rfl) ?_
          first | refine g_cnd TrydT_ok Tryd.func5 rfl (fun h3 => ?_) (fun h3 => ?_) | refine g_know TrydT_ok Tryd.func5 rfl (fun h3 => ?_) (fun h3 => ?_) | refine s_know TrydT_ok (fun h3 => ?_) (fun h3 => ?_)
          · have h3 := bneT h3
            rw [if_pos h3] at hno
            have h4 := (hse h3).2
            subst h4
            first | refine g_cnd TrydT_ok Tryd.func5 rfl (fun h5 => ?_) (fun h5 => ?_) | refine g_know TrydT_ok Tryd.func5 rfl (fun h5 => ?_) (fun h5 => ?_) | refine s_know TrydT_ok (fun h5 => ?_) (fun h5 => ?_)
            · refine g_stop ?_
              exact rch_meet (J (qe, s, n) ⟨by rw [hno, if_pos h3], okS_len hr hs⟩) ⟨rfl, rfl, rfl, rfl, rfl, rfl, trivial⟩ rfl ⟨rfl, rfl, trivial⟩ rfl rfl
            · exact absurd h5 (by simp)
          · have h3 := bneF h3
            rw [if_neg (by simpa using h3)] at hno
            cases qp with
            | false =>
              rw [if_pos rfl] at hno
              first | refine g_cnd TrydT_ok Tryd.func5 rfl (fun h5 => ?_) (fun h5 => ?_) | refine g_know TrydT_ok Tryd.func5 rfl (fun h5 => ?_) (fun h5 => ?_) | refine s_know TrydT_ok (fun h5 => ?_) (fun h5 => ?_)
              · refine g_stop ?_
                exact rch_meet (J (0, s, n) ⟨hno, okS_len hr hs⟩) ⟨rfl, rfl, rfl, rfl, rfl, rfl, trivial⟩ rfl ⟨rfl, rfl, trivial⟩ rfl rfl
              · exact absurd h5 (by simp)
            | true =>
              rw [if_neg (by simp)] at hno
              first | refine g_cnd TrydT_ok Tryd.func5 rfl (fun h5 => ?_) (fun h5 => ?_) | refine g_know TrydT_ok Tryd.func5 rfl (fun h5 => ?_) (fun h5 => ?_) | refine s_know TrydT_ok (fun h5 => ?_) (fun h5 => ?_)
              · exact absurd h5 (by simp)
              · refine g_loop ?_
                refine ih (n + 1, qs) _ _ ⟨h2, hso rfl, ?_⟩ (by simp only; omega) ⟨rfl, rfl, rfl, rfl, rfl, rfl, rfl, congrArg ii (wsucc h2 hw), trivial⟩ rfl ⟨rfl, rfl, rfl, trivial⟩ rfl rfl
                rw [hno]
                rfl
        · have h2 : w.length ≤ n := by simpa using g2
          clear g2
          rw [List.drop_eq_nil_of_le h2] at hno
          simp only [runL] at hno
          repeat (first | refine g_cnd TrydT_ok Tryd.func5 rfl (fun _ => ?_) (fun h => absurd h (by decide)) | refine g_cnd TrydT_ok Tryd.func5 rfl (fun h => absurd h (by decide)) (fun _ => ?_) | refine g_know TrydT_ok Tryd.func5 rfl (fun _ => ?_) (fun h => absurd h (by decide)) | refine g_know TrydT_ok Tryd.func5 rfl (fun h => absurd h (by decide)) (fun _ => ?_) | refine s_know TrydT_ok (fun _ => ?_) (fun h => absurd h (by decide)) | refine s_know TrydT_ok (fun h => absurd h (by decide)) (fun _ => ?_))
          refine g_stop ?_
          exact rch_meet (J (0, s, n) ⟨hno, okS_len hr hs⟩) ⟨rfl, rfl, rfl, rfl, rfl, rfl, trivial⟩ rfl ⟨rfl, rfl, trivial⟩ rfl rfl
  · rintro ⟨e, s, n⟩ ⟨hP, hsl⟩
    simp only at hP hsl
    by_cases h1 : e ≠ 0
    · rw [if_pos h1] at hP
      subst hP
      refine g_run TrydT_ok Tryd.func5 ?_
      refine g_go TrydT_ok Tryd.func5 ?_
      first | refine g_cnd TrydT_ok Tryd.func5 rfl (fun h2 => ?_) (fun h2 => ?_) | refine g_know TrydT_ok Tryd.func5 rfl (fun h2 => ?_) (fun h2 => ?_) | refine s_know TrydT_ok (fun h2 => ?_) (fun h2 => ?_)
      · have hnone := fun O => none26 O zeroS (by decide)
        first | refine g_call TrydT_ok Tryd.func5 (hnone _) rfl rfl rfl rfl rfl ?_ | refine s_callq TrydT_ok (fun _ => hnone _) rfl rfl rfl ?_
        repeat (first | refine g_cnd TrydT_ok Tryd.func5 rfl (fun _ => ?_) (fun h => absurd h (by decide)) | refine g_cnd TrydT_ok Tryd.func5 rfl (fun h => absurd h (by decide)) (fun _ => ?_) | refine g_know TrydT_ok Tryd.func5 rfl (fun _ => ?_) (fun h => absurd h (by decide)) | refine g_know TrydT_ok Tryd.func5 rfl (fun h => absurd h (by decide)) (fun _ => ?_) | refine s_know TrydT_ok (fun _ => ?_) (fun h => absurd h (by decide)) | refine s_know TrydT_ok (fun h => absurd h (by decide)) (fun _ => ?_))
        first | refine g_cnd TrydT_ok Tryd.func5 rfl (fun h3 => ?_) (fun h3 => ?_) | refine g_know TrydT_ok Tryd.func5 rfl (fun h3 => ?_) (fun h3 => ?_) | refine s_know TrydT_ok (fun h3 => ?_) (fun h3 => ?_)
        rotate_left
        · exact absurd h3 (by simp)
        refine g_ret TrydT_ok (r := bb (e == e)) rfl rfl rfl trivial rfl rfl ?_
        simp
      · exact absurd (bneF h2) h1
    · rw [if_neg h1] at hP
      subst hP
      refine g_run TrydT_ok Tryd.func5 ?_
      refine g_go TrydT_ok Tryd.func5 ?_
      first | refine g_cnd TrydT_ok Tryd.func5 rfl (fun h2 => ?_) (fun h2 => ?_) | refine g_know TrydT_ok Tryd.func5 rfl (fun h2 => ?_) (fun h2 => ?_) | refine s_know TrydT_ok (fun h2 => ?_) (fun h2 => ?_)
      · exact absurd (bneT h2) h1
      · have hs2 := fun O => same22 O s s hsl
        first | refine g_call TrydT_ok Tryd.func5 (hs2 _) rfl rfl rfl rfl rfl ?_ | refine s_callq TrydT_ok (fun _ => hs2 _) rfl rfl rfl ?_
        first | refine g_cnd TrydT_ok Tryd.func5 rfl (fun h3 => ?_) (fun h3 => ?_) | refine g_know TrydT_ok Tryd.func5 rfl (fun h3 => ?_) (fun h3 => ?_) | refine s_know TrydT_ok (fun h3 => ?_) (fun h3 => ?_)
        · first | refine g_cnd TrydT_ok Tryd.func5 rfl (fun h4 => ?_) (fun h4 => ?_) | refine g_know TrydT_ok Tryd.func5 rfl (fun h4 => ?_) (fun h4 => ?_) | refine s_know TrydT_ok (fun h4 => ?_) (fun h4 => ?_)
          · refine g_ret TrydT_ok (r := bb true) rfl rfl rfl trivial rfl rfl ?_
            rfl
          · exact absurd h4 (by simp)
        · exact absurd h3 (by simp)
end Go.AI

namespace Go.AI
open Go.Proofs
set_option maxRecDepth 20000
/- Words. -/
theorem back_ext {frm ext : List (Int × Int)} (hl : ∀ k (h : k < frm.length), frm[k].1 < k) : ∀ (n : Nat) (p : Int × Int) (f f' : Nat), p.1 < n → n ≤ frm.length → n + 1 ≤ f → n + 1 ≤ f' → back (frm ++ ext) f p = back frm f' p := by
  intro n
  induction n with
  | zero =>
    intro p f f' hp _ hf hf'
    obtain ⟨g, rfl⟩ : ∃ g, f = g + 1 := ⟨f - 1, by omega⟩
    obtain ⟨g', rfl⟩ : ∃ g, f' = g + 1 := ⟨f' - 1, by omega⟩
    simp only [back]
    rw [if_pos (by omega), if_pos (by omega)]
  | succ n ih =>
    intro p f f' hp hn hf hf'
    obtain ⟨g, rfl⟩ : ∃ g, f = g + 1 := ⟨f - 1, by omega⟩
    obtain ⟨g', rfl⟩ : ∃ g, f' = g + 1 := ⟨f' - 1, by omega⟩
    simp only [back]
    by_cases h : p.1 < 0
    · rw [if_pos h, if_pos h]
    · rw [if_neg h, if_neg h]
      have hk : p.1.toNat < frm.length := by omega
      have e1 : (frm ++ ext).getD p.1.toNat (-1, -1) = frm[p.1.toNat] := by
        rw [List.getD_eq_getElem?_getD, List.getElem?_append_left hk, List.getElem?_eq_getElem hk]
        rfl
      have e2 : frm.getD p.1.toNat (-1, -1) = frm[p.1.toNat] := by
        rw [List.getD_eq_getElem?_getD, List.getElem?_eq_getElem hk]
        rfl
      rw [e1, e2, ih _ g g' (by have := hl _ hk; omega) (by omega) (by omega) (by omega)]
theorem back_fuel5 {frm : List (Int × Int)} (hl : ∀ k (h : k < frm.length), frm[k].1 < k) {n f f' : Nat} {p : Int × Int} (hp : p.1 < n) (hn : n ≤ frm.length) (hf : n + 1 ≤ f) (hf' : n + 1 ≤ f') : back frm f p = back frm f' p := by
  have h1 := back_ext (ext := []) hl n p f f' hp hn hf hf'
  rwa [List.append_nil] at h1
theorem back_s (frm : List (Int × Int)) (f : Nat) (p : Int × Int) : back frm (f + 1) p = if p.1 < 0 then [] else p.2 :: back frm f (frm.getD p.1.toNat (-1, -1)) := rfl
theorem back_5000 (frm : List (Int × Int)) (p : Int × Int) : back frm 5000 p = if p.1 < 0 then [] else p.2 :: back frm 4999 (frm.getD p.1.toNat (-1, -1)) := back_s frm 4999 p
/-- The word to a state. -/
def wd (S : Srch) (i : Nat) : List Int := (back S.frm 5000 (S.frm.getD i (-1, -1))).reverse
def rsOf (S : Srch) : List (List Int × Sta) := (List.range S.sts.length).map fun i => (wd S i, S.sts.getD i zeroS)
def badOf (S : Srch) : List Int := if S.kind = 0 then [] else (back S.frm 5000 S.flt).reverse
theorem rsOf_len (S : Srch) : (rsOf S).length = S.sts.length := by simp [rsOf]
theorem rsOf_get {S : Srch} {i : Nat} (h : i < S.sts.length) : (rsOf S)[i]? = some (wd S i, S.sts[i]) := by
  unfold rsOf
  rw [List.getElem?_map, List.getElem?_range h]
  simp [h]
theorem rsOf_snd (S : Srch) : (rsOf S).map (·.2) = S.sts := by
  apply List.ext_getElem?
  intro i
  rw [List.getElem?_map]
  by_cases h : i < S.sts.length
  · rw [rsOf_get h, List.getElem?_eq_getElem h]
    rfl
  · rw [List.getElem?_eq_none (by rw [rsOf_len]; omega), List.getElem?_eq_none (by omega)]
    rfl
/-- What is known in a search of a sketched automaton. -/
structure Inv5 (m : Ext) (S : Srch) : Prop where
  lk : Linked S
  ok : ∀ s ∈ S.sts, okS m s
  nd : S.sts.Nodup
  fl : S.kind ≠ 0 → 0 ≤ S.flt.1
/- No more than 64 states. -/
theorem nodup_bound : ∀ {n : Nat} {l : List Nat}, l.Nodup → (∀ x ∈ l, x < n) → l.length ≤ n
  | 0, l, _, h => by
    cases l with
    | nil => exact Nat.le_refl _
    | cons a r => exact absurd (h a (by simp)) (Nat.not_lt_zero _)
  | n + 1, l, hn, h => by
    by_cases hm : n ∈ l
    · have h1 := nodup_bound (n := n) (l := l.erase n) (hn.erase n) fun x hx => by
        have hx2 := (hn.mem_erase_iff).1 hx
        have := h x hx2.2
        have := hx2.1
        omega
      rw [List.length_erase_of_mem hm] at h1
      omega
    · have := nodup_bound (n := n) (l := l) hn fun x hx => by
        have h1 := h x hx
        have : x ≠ n := fun e => hm (e ▸ hx)
        omega
      omega
def codeS (m : Ext) (s : Sta) : Nat := s.loc.toNat + 4 * ((s.vals.getD 0 0 - (m.vars.getD 0 ⟨⟨#[]⟩, 0, 0, 0⟩).low).toNat + 4 * (s.vals.getD 1 0 - (m.vars.getD 1 ⟨⟨#[]⟩, 0, 0, 0⟩).low).toNat)
theorem okS_val {m : Ext} (hm : made m) {s : Sta} (h : okS m s) (i : Nat) (hi : i < m.vars.length) : ∃ hi' : i < s.vals.length, m.vars[i].low ≤ s.vals[i] ∧ s.vals[i] ≤ m.vars[i].low + 3 := by
  have hl := (okS_bounds (made_right hm) h).2.2.2.1
  have h1 := within_get h.2 i hi (by omega)
  have h2 := (hm.v _ (List.getElem_mem hi)).w
  exact ⟨by omega, h1.1, by omega⟩
theorem codeS_lt {m : Ext} (hm : made m) {s : Sta} (h : okS m s) : codeS m s < 64 := by
  have hl := (okS_bounds (made_right hm) h).2.2.2.1
  have hlo := hm.lo
  have h0 := h.1
  have hv2 := hm.vl
  have part : ∀ i, (s.vals.getD i 0 - (m.vars.getD i ⟨⟨#[]⟩, 0, 0, 0⟩).low).toNat < 4 := by
    intro i
    by_cases hi : i < m.vars.length
    · obtain ⟨hi', h1, h2⟩ := okS_val hm h i hi
      rw [List.getD_eq_getElem?_getD, List.getD_eq_getElem?_getD, List.getElem?_eq_getElem hi', List.getElem?_eq_getElem hi]
      simp only [Option.getD_some]
      omega
    · rw [List.getD_eq_getElem?_getD, List.getD_eq_getElem?_getD, List.getElem?_eq_none (by omega), List.getElem?_eq_none (by omega)]
      simp only [Option.getD_none]
      omega
  have := part 0
  have := part 1
  unfold codeS
  omega
theorem codeS_inj {m : Ext} (hm : made m) {s t : Sta} (hs : okS m s) (ht : okS m t) (h : codeS m s = codeS m t) : s = t := by
  have hls := (okS_bounds (made_right hm) hs).2.2.2.1
  have hlt := (okS_bounds (made_right hm) ht).2.2.2.1
  have hlo := hm.lo
  have h0 := hs.1
  have h0' := ht.1
  have hv2 := hm.vl
  have part : ∀ (s : Sta), okS m s → s.vals.length = m.vars.length → ∀ i, (s.vals.getD i 0 - (m.vars.getD i ⟨⟨#[]⟩, 0, 0, 0⟩).low).toNat < 4 ∧ 0 ≤ (s.vals.getD i 0 - (m.vars.getD i ⟨⟨#[]⟩, 0, 0, 0⟩).low) := by
    intro s h hl i
    by_cases hi : i < m.vars.length
    · obtain ⟨hi', h1, h2⟩ := okS_val hm h i hi
      rw [List.getD_eq_getElem?_getD, List.getD_eq_getElem?_getD, List.getElem?_eq_getElem hi', List.getElem?_eq_getElem hi]
      simp only [Option.getD_some]
      omega
    · rw [List.getD_eq_getElem?_getD, List.getD_eq_getElem?_getD, List.getElem?_eq_none (by omega), List.getElem?_eq_none (by omega)]
      simp only [Option.getD_none]
      omega
  have p0 := part s hs hls 0
  have p1 := part s hs hls 1
  have q0 := part t ht hlt 0
  have q1 := part t ht hlt 1
  unfold codeS at h
  have e0 : s.loc = t.loc := by omega
  have e1 : s.vals.getD 0 0 = t.vals.getD 0 0 := by omega
  have e2 : s.vals.getD 1 0 = t.vals.getD 1 0 := by omega
  have ev : s.vals = t.vals := by
    apply List.ext_getElem (by omega)
    intro i hi hi'
    have : i = 0 ∨ i = 1 := by omega
    rcases this with rfl | rfl
    · rw [List.getD_eq_getElem?_getD, List.getD_eq_getElem?_getD, List.getElem?_eq_getElem hi, List.getElem?_eq_getElem hi'] at e1
      exact e1
    · rw [List.getD_eq_getElem?_getD, List.getD_eq_getElem?_getD, List.getElem?_eq_getElem hi, List.getElem?_eq_getElem hi'] at e2
      exact e2
  cases s
  cases t
  simp only at e0 ev
  rw [e0, ev]
theorem few_states {m : Ext} (hm : made m) {l : List Sta} (ho : ∀ s ∈ l, okS m s) (hn : l.Nodup) : l.length ≤ 64 := by
  have h := nodup_bound (n := 64) (l := l.map (codeS m)) ?_ ?_
  · rwa [List.length_map] at h
  · unfold List.Nodup at hn ⊢
    rw [List.pairwise_map]
    refine hn.imp_of_mem fun {a b} ha hb hne h => hne (codeS_inj hm (ho a ha) (ho b hb) h)
  · intro x hx
    obtain ⟨s, hs, rfl⟩ := List.mem_map.1 hx
    exact codeS_lt hm (ho s hs)
/- The text of a state says which it is. -/
def decB (l : List UInt8) : List Int :=
  let r := l.foldl (fun (x : List Int × Bool × Int) c =>
    if c = 32 then (x.1 ++ [if x.2.1 then -x.2.2 else x.2.2], false, 0) else if c = 45 then (x.1, true, x.2.2) else (x.1, x.2.1, x.2.2 * 10 + ((c.toNat : Int) - 48))) ([], false, 0)
  r.1 ++ [if r.2.1 then -r.2.2 else r.2.2]
def decS (b : ByteArray) : Sta := match decB b.data.toList with
  | [] => zeroS
  | l :: v => ⟨l, v⟩
def smallI : List Int := (List.range 12).map fun (k : Nat) => (k : Int) - 4
def valsL : List (List Int) := [[]] ++ smallI.map (fun a => [a]) ++ smallI.flatMap fun a => smallI.map fun b => [a, b]
def combos : List Sta := (List.range 4).flatMap fun (l : Nat) => valsL.map fun v => ⟨l, v⟩
theorem combos_ok : (combos.all fun s => decide (decS (keyOf s) = s)) = true := by kernel_rfl
theorem okS_combo {m : Ext} (hm : made m) {s : Sta} (h : okS m s) : s ∈ combos := by
  have hl := (okS_bounds (made_right hm) h).2.2.2.1
  have hlo := hm.lo
  have h0 := h.1
  have hv2 := hm.vl
  have sm : ∀ i (hi : i < s.vals.length), s.vals[i] ∈ smallI := by
    intro i hi
    obtain ⟨_, h1, h2⟩ := okS_val hm h i (by omega)
    have h3 := (hm.v _ (List.getElem_mem (show i < m.vars.length by omega)))
    have := h3.lo
    have := h3.hi
    have h4 := within_get h.2 i (by omega) hi
    unfold smallI
    rw [List.mem_map]
    exact ⟨(s.vals[i] + 4).toNat, List.mem_range.2 (by omega), by omega⟩
  unfold combos
  rw [List.mem_flatMap]
  refine ⟨s.loc.toNat, List.mem_range.2 (by omega), ?_⟩
  rw [List.mem_map]
  refine ⟨s.vals, ?_, by cases s; simp only at h0 ⊢; congr 1; omega⟩
  unfold valsL
  match hv : s.vals, (show s.vals.length ≤ 2 by omega) with
  | [], _ => simp
  | [a], _ =>
    have h1 := sm 0 (by rw [hv]; simp)
    simp only [hv, List.getElem_cons_zero] at h1
    simp [h1]
  | [a, b], _ =>
    have h1 := sm 0 (by rw [hv]; simp)
    have h2 := sm 1 (by rw [hv]; simp)
    simp only [hv, List.getElem_cons_zero, List.getElem_cons_succ] at h1 h2
    simp [h1, h2]
theorem key_inj {m : Ext} (hm : made m) {s t : Sta} (hs : okS m s) (ht : okS m t) (h : (keyOf s == keyOf t) = true) : s = t := by
  have e : keyOf s = keyOf t := by
    have h' : ((keyOf s).data == (keyOf t).data) = true := h
    exact ByteArray.ext (by simpa using h')
  have h1 := of_decide_eq_true (List.all_eq_true.1 combos_ok s (okS_combo hm hs))
  have h2 := of_decide_eq_true (List.all_eq_true.1 combos_ok t (okS_combo hm ht))
  rw [← h1, ← h2, e]
/-- One event, where there is no limit. -/
def vt (m : Ext) (i : Nat) (s : Sta) (ev : Int) (S : Srch) : Srch :=
  let n := stepR m s ev
  let S1 : Srch := if n.2.2 ≠ 0 ∧ S.kind = 0 then { S with kind := n.2.2, flt := (i, ev) } else S
  if n.2.1 = false ∨ n.1 ∈ S.sts then S1 else { S1 with sts := S1.sts ++ [n.1], frm := S1.frm ++ [((i : Int), ev)] }
theorem visit_vt {m : Ext} (hm : made m) {i : Nat} {s : Sta} {ev : Int} {S : Srch} (hI : Inv5 m S) (hs : okS m s) : visit m i s ev S = some (vt m i s ev S) := by
  have hlen := few_states hm hI.ok hI.nd
  have hst := @step_ok m s ev (made_right hm) hs
  unfold visit vt
  simp only
  have hiff : (stepR m s ev).2.1 = true → ((S.sts.any fun t => keyOf (stepR m s ev).1 == keyOf t) = true ↔ (stepR m s ev).1 ∈ S.sts) := by
    intro hp
    rw [List.any_eq_true]
    constructor
    · rintro ⟨t, ht, hk⟩
      rw [key_inj hm (hst hp) (hI.ok t ht) hk]
      exact ht
    · intro h
      refine ⟨_, h, ?_⟩
      show ((keyOf (stepR m s ev).1).data == (keyOf (stepR m s ev).1).data) = true
      simp
  generalize (if (stepR m s ev).2.2 ≠ 0 ∧ S.kind = 0 then { S with kind := (stepR m s ev).2.2, flt := ((i : Int), ev) } else S) = S1
  cases hp : (stepR m s ev).2.1 with
  | false => rw [if_pos (.inl rfl), if_pos (.inl rfl)]
  | true =>
    have h := hiff hp
    by_cases hmem : (stepR m s ev).1 ∈ S.sts
    · rw [if_pos (.inr (h.2 hmem)), if_pos (.inr hmem)]
    · rw [if_neg (by rintro (h' | h'); cases h'; exact hmem (h.1 h')), if_neg (by omega), if_neg (by rintro (h' | h'); cases h'; exact hmem h')]
theorem vt_inv {m : Ext} (hm : made m) {i : Nat} {s : Sta} {ev : Int} {S : Srch} (hI : Inv5 m S) (hs : okS m s) (hi : i < S.sts.length) : Inv5 m (vt m i s ev S) ∧ S.sts.length ≤ (vt m i s ev S).sts.length := by
  obtain ⟨h1, h2⟩ := visit_linked (visit_vt hm (i := i) (ev := ev) hI hs) hI.lk hi
  refine ⟨⟨h1, ?_, ?_, ?_⟩, h2⟩
  all_goals
    unfold vt
    simp only
    generalize hS1 : (if (stepR m s ev).2.2 ≠ 0 ∧ S.kind = 0 then { S with kind := (stepR m s ev).2.2, flt := ((i : Int), ev) } else S) = S1
    have e1 : S1.sts = S.sts := by rw [← hS1]; split <;> rfl
    have e3 : S1.kind ≠ 0 → 0 ≤ S1.flt.1 := by
      rw [← hS1]
      split
      · intro _; simp only; omega
      · exact hI.fl
  · split
    · rw [e1]; exact hI.ok
    · rename_i hc
      rw [not_or] at hc
      simp only [e1]
      intro t ht
      rcases List.mem_append.1 ht with ht | ht
      · exact hI.ok t ht
      · simp only [List.mem_singleton] at ht
        subst ht
        exact step_ok (made_right hm) hs (by simpa using hc.1)
  · split
    · rw [e1]; exact hI.nd
    · rename_i hc
      rw [not_or] at hc
      simp only [e1]
      unfold List.Nodup
      rw [List.pairwise_append]
      refine ⟨hI.nd, List.pairwise_singleton _ _, fun a ha b hb => ?_⟩
      simp only [List.mem_singleton] at hb
      subst hb
      exact fun e => hc.2 (e ▸ ha)
  · split <;> exact e3
theorem vts_inv {m : Ext} (hm : made m) {i : Nat} {s : Sta} (hs : okS m s) : ∀ (l : List Int) {S : Srch}, Inv5 m S → i < S.sts.length → visits m i s l S = some (l.foldl (fun S ev => vt m i s ev S) S) ∧ Inv5 m (l.foldl (fun S ev => vt m i s ev S) S) ∧ S.sts.length ≤ (l.foldl (fun S ev => vt m i s ev S) S).sts.length
  | [], S, h, _ => ⟨rfl, h, Nat.le_refl _⟩
  | ev :: r, S, h, hi => by
    obtain ⟨h1, h2⟩ := vt_inv hm (i := i) (ev := ev) h hs hi
    obtain ⟨h3, h4, h5⟩ := vts_inv (i := i) hm hs r h1 (by omega)
    simp only [visits, visit_vt hm (i := i) (ev := ev) h hs, List.foldl_cons]
    exact ⟨h3, h4, by omega⟩
theorem search_inv {m : Ext} (hm : made m) : ∀ (f i : Nat) {S : Srch}, Inv5 m S → ∃ F, searchL m f i S = some F ∧ Inv5 m F
  | 0, i, S, h => ⟨S, rfl, h⟩
  | f + 1, i, S, h => by
    simp only [searchL]
    cases hs : S.sts[i]? with
    | none => exact ⟨S, rfl, h⟩
    | some s =>
      obtain ⟨hlt, e⟩ := List.getElem?_eq_some_iff.1 hs
      obtain ⟨h1, h2, _⟩ := vts_inv hm (i := i) (s := s) (h.ok s (e ▸ List.getElem_mem hlt)) m.alpha h hlt
      simp only [h1]
      exact search_inv hm f (i + 1) h2
theorem inv0 {m : Ext} (hm : made m) : Inv5 m (search0 m) := by
  refine ⟨⟨rfl, fun k h => ?_, by simp [search0], by simp [search0]⟩, fun s hs => ?_, by simp [search0], fun h => absurd rfl h⟩
  · simp only [search0, List.length_singleton] at h
    obtain rfl : k = 0 := by omega
    simp [search0]
  · simp only [search0, List.mem_singleton] at hs
    subst hs
    exact start_ok (made_right hm)
theorem made_search {m : Ext} (hm : made m) : ∃ F, searchR m = some F ∧ Inv5 m F := search_inv hm 4097 0 (inv0 hm)
/- What one event does to words. -/
theorem back_len (frm : List (Int × Int)) : ∀ (f : Nat) (p : Int × Int), (back frm f p).length ≤ f
  | 0, _ => Nat.le_refl _
  | f + 1, p => by
    have := back_len frm f (frm.getD p.1.toNat (-1, -1))
    simp only [back]
    split
    · simp
    · simp only [List.length_cons]; omega
theorem wd_app {m : Ext} {S : Srch} (hI : Inv5 m S) {x : Int × Int} {k : Nat} (hk : k < S.sts.length) : wd { S with sts := S.sts ++ [zeroS], frm := S.frm ++ [x] } k = wd S k := by
  have hl := hI.lk.len
  have hm := hI.lk.most
  unfold wd
  have e1 : (S.frm ++ [x]).getD k (-1, -1) = S.frm.getD k (-1, -1) := by
    rw [List.getD_eq_getElem?_getD, List.getD_eq_getElem?_getD, List.getElem?_append_left (by omega)]
  simp only [e1]
  have hp : (S.frm.getD k (-1, -1)).1 < k := by
    rw [List.getD_eq_getElem?_getD, List.getElem?_eq_getElem (by omega)]
    exact hI.lk.frm k (by omega)
  rw [back_ext hI.lk.frm k _ 5000 5000 hp (by omega) (by omega) (by omega)]
theorem wd_new {m : Ext} {S : Srch} (hI : Inv5 m S) {i : Nat} {ev : Int} (hi : i < S.sts.length) : (back (S.frm ++ [((i : Int), ev)]) 5000 ((i : Int), ev)).reverse = wd S i ++ [ev] := by
  have hl := hI.lk.len
  have hm := hI.lk.most
  unfold wd
  have hp : (S.frm.getD i (-1, -1)).1 < i := by
    rw [List.getD_eq_getElem?_getD, List.getElem?_eq_getElem (by omega)]
    exact hI.lk.frm i (by omega)
  have e1 : (S.frm ++ [((i : Int), ev)]).getD i (-1, -1) = S.frm.getD i (-1, -1) := by
    rw [List.getD_eq_getElem?_getD, List.getD_eq_getElem?_getD, List.getElem?_append_left (by omega)]
  rw [back_5000 (S.frm ++ [((i : Int), ev)]), if_neg (by simp only; omega)]
  simp only [Int.toNat_natCast]
  rw [e1, back_ext hI.lk.frm i _ 4999 5000 hp (by omega) (by omega) (by omega)]
  simp
theorem bad_new {m : Ext} {S : Srch} (hI : Inv5 m S) {i : Nat} {ev : Int} (hi : i < S.sts.length) : (back S.frm 5000 ((i : Int), ev)).reverse = wd S i ++ [ev] := by
  have hl := hI.lk.len
  have hm := hI.lk.most
  unfold wd
  have hp : (S.frm.getD i (-1, -1)).1 < i := by
    rw [List.getD_eq_getElem?_getD, List.getElem?_eq_getElem (by omega)]
    exact hI.lk.frm i (by omega)
  rw [back_5000 S.frm ((i : Int), ev), if_neg (by simp only; omega)]
  simp only [Int.toNat_natCast]
  rw [back_fuel5 hI.lk.frm (f := 4999) (f' := 5000) hp (by omega) (by omega) (by omega)]
  simp
theorem bad_app {m : Ext} {S : Srch} (hI : Inv5 m S) {x : Int × Int} : back (S.frm ++ [x]) 5000 S.flt = back S.frm 5000 S.flt := by
  have hl := hI.lk.len
  have hm := hI.lk.most
  exact back_ext hI.lk.frm S.frm.length _ 5000 5000 (by have := hI.lk.flt; omega) (Nat.le_refl _) (by omega) (by omega)
theorem rs_app {m : Ext} {S : Srch} (hI : Inv5 m S) {i : Nat} {ev : Int} (hi : i < S.sts.length) (n : Sta) (fl : Int × Int) (kd : Int) :
    rsOf ⟨S.sts ++ [n], S.frm ++ [((i : Int), ev)], fl, kd⟩ = rsOf S ++ [(wd S i ++ [ev], n)] := by
  have hl := hI.lk.len
  unfold rsOf
  simp only [List.length_append, List.length_singleton]
  rw [List.range_succ, List.map_append]
  congr 1
  · refine List.map_congr_left fun k hk => ?_
    rw [List.mem_range] at hk
    have h1 : wd ⟨S.sts ++ [n], S.frm ++ [((i : Int), ev)], fl, kd⟩ k = wd S k := wd_app (x := ((i : Int), ev)) hI hk
    rw [h1]
    congr 1
    rw [List.getD_eq_getElem?_getD, List.getD_eq_getElem?_getD, List.getElem?_append_left hk]
  · simp only [List.map_cons, List.map_nil]
    congr 1
    have h1 : wd ⟨S.sts ++ [n], S.frm ++ [((i : Int), ev)], fl, kd⟩ S.sts.length = wd S i ++ [ev] := by
      rw [← wd_new hI hi]
      unfold wd
      simp only
      have : (S.frm ++ [((i : Int), ev)]).getD S.sts.length (-1, -1) = ((i : Int), ev) := by
        rw [List.getD_eq_getElem?_getD, ← hl, List.getElem?_append_right (Nat.le_refl _)]
        simp
      rw [this]
    rw [h1]
    congr 1
    rw [List.getD_eq_getElem?_getD, List.getElem?_append_right (Nat.le_refl _)]
    simp
end Go.AI

namespace Go.AI
open Go.Proofs
set_option maxRecDepth 20000
theorem checkSet_aux {n : Int} : ∀ {l : List Int} {y : Int}, checkSet n l (some y) = 0 → y + 1 ≤ n → (l.length : Int) ≤ n - 1 - y
  | [], y, _, h => by simp only [List.length_nil]; omega
  | x :: r, y, h, hy => by
    simp only [checkSet] at h
    by_cases h1 : x < 0 ∨ x ≥ n
    · rw [if_pos h1] at h; exact absurd h (by decide)
    rw [if_neg h1] at h
    by_cases h2 : (some y).any (x ≤ ·) = true
    · rw [if_pos h2] at h; exact absurd h (by decide)
    rw [if_neg h2] at h
    have hxy : y < x := by simpa using h2
    have := checkSet_aux h (by omega)
    simp only [List.length_cons]
    omega
theorem checkSet_len {n : Int} (hn : 0 ≤ n) : ∀ {l : List Int}, checkSet n l none = 0 → (l.length : Int) ≤ n
  | [], _ => by simpa using hn
  | x :: r, h => by
    simp only [checkSet] at h
    by_cases h1 : x < 0 ∨ x ≥ n
    · rw [if_pos h1] at h; exact absurd h (by decide)
    rw [if_neg h1] at h
    have h' : checkSet n r (some x) = 0 := by simpa using h
    have := checkSet_aux h' (by omega)
    simp only [List.length_cons]
    omega
def enL (m : Ext) (s : Sta) : List Int → List Int → List Int × Int
  | [], acc => (acc, 0)
  | ev :: r, acc => if (stepR m s ev).2.2 ≠ 0 then ([], (stepR m s ev).2.2) else enL m s r (bif (stepR m s ev).2.1 then acc ++ [ev] else acc)
/-- Enabled. -/
def enR (m : Ext) (s : Sta) : List Int × Int := if ckS m s ≠ 0 then ([], ckS m s) else enL m s m.alpha []
theorem enabled27 (O : List Heap) (m : Ext) (s : Sta) (hok : extOk m) : ASpec Tryd.prog 27 [extD m, staD s] O (.tup [ints (enR m s).1, ii (enR m s).2]) [] O := by
  have hal := hok.al
  have hck := fun O => checkState28 O m s hok
  have hvalid : ckS m s = 0 → extRight m ∧ s.vals.length = m.vars.length := by
    intro h
    unfold ckS at h
    by_cases h1 : chk m ≠ 0
    · rw [if_pos h1] at h; exact absurd h h1
    have h1 : chk m = 0 := by simpa using h1
    refine ⟨chk_right h1, ?_⟩
    by_cases h2 : s.vals.length = m.vars.length
    · exact h2
    · rw [if_neg (by rw [h1]; simp)] at h
      split at h
      · cases h
      · exact absurd h (by decide)
  generalize hR : enR m s = R
  unfold enR at hR
  generalize ckS m s = c at hck hvalid hR
  obtain ⟨sl, sv⟩ := s
  refine aspec_intro TrydT_ok Tryd.func27 rfl Tryd.call27 Tryd.ntmps27 (Nat.le_of_ble_eq_true rfl) fun E => ?_
  refine g_run TrydT_ok Tryd.func27 ?_
  first | refine g_call TrydT_ok Tryd.func27 (hck _) rfl rfl rfl rfl rfl ?_ | refine s_callq TrydT_ok (fun _ => hck _) rfl rfl rfl ?_
  first | refine g_cnd TrydT_ok Tryd.func27 rfl (fun h1 => ?_) (fun h1 => ?_) | refine g_know TrydT_ok Tryd.func27 rfl (fun h1 => ?_) (fun h1 => ?_) | refine s_know TrydT_ok (fun h1 => ?_) (fun h1 => ?_)
  · have h1 := bneT h1
    rw [if_pos h1] at hR
    subst hR
    refine g_ret_co TrydT_ok (r := .tup [.i (.v (.slice none 0 0)), ii c]) rfl rfl rfl trivial rfl rfl ?_
    exact coD_tup (.cons (coD_i coI_nil) (CoDL.refl _))
  have h1 := bneF h1
  have h1 : c = 0 := by simpa using h1
  rw [if_neg (by rw [h1]; simp)] at hR
  obtain ⟨hr, hl⟩ := hvalid h1
  refine g_loop ?_
  refine rch_wk (wk_nil 7 41 3 1 rfl rfl rfl) ?_
  refine rch_loop2 (fun x : Nat × List Int => [(2, .own 0 2 0 0), (3, .own 0 3 0 0), (7, .osl 0 41), (20, ints m.alpha), (21, ii m.alpha.length), (22, ii x.1)]) (fun x => [(2, .box (extC m)), (3, .box [ii sl, ints sv]), (41, oints x.2)]) (fun _ => O) 44
    (fun x => x.1 ≤ m.alpha.length ∧ x.2.length ≤ x.1 ∧ enL m ⟨sl, sv⟩ (m.alpha.drop x.1) x.2 = R) (fun x => m.alpha.length - x.1) (0, []) ⟨Nat.zero_le _, Nat.le_refl _, hR⟩ ⟨rfl, rfl, rfl, rfl, rfl, rfl, trivial⟩ rfl ⟨rfl, rfl, rfl, trivial⟩ rfl rfl ?_
  rintro ⟨i, l⟩ ⟨hi, hll, hno⟩ ih
  clear hR
  simp only at hi hll hno
  refine g_run TrydT_ok Tryd.func27 ?_
  first | refine g_cnd TrydT_ok Tryd.func27 rfl (fun h2 => ?_) (fun h2 => ?_) | refine g_know TrydT_ok Tryd.func27 rfl (fun h2 => ?_) (fun h2 => ?_) | refine s_know TrydT_ok (fun h2 => ?_) (fun h2 => ?_)
  · have h2 : i < m.alpha.length := by simpa using h2
    have hd : m.alpha.drop i = m.alpha[i] :: m.alpha.drop (i + 1) := List.drop_eq_getElem_cons h2
    have hg : (m.alpha.map fun x => [vi x])[(i : Int).toNat]? = some [vi m.alpha[i]] := get_mapZ (f := fun x => [vi x]) h2
    generalize m.alpha[i] = ev at hd hg
    rw [hd] at hno
    simp only [enL] at hno
    have hstep := fun O => step50 O m ⟨sl, sv⟩ ev hok hr hl
    generalize stepR m ⟨sl, sv⟩ ev = n at *
    obtain ⟨⟨nl, nv⟩, np, ne⟩ := n
    simp only at hno hstep
    first | refine g_need TrydT_ok Tryd.func27 (by exact ⟨by omega, by show (i : Int) < (m.alpha.length : Int); omega⟩) ?_ | refine s_need TrydT_ok (by exact ⟨by omega, by show (i : Int) < (m.alpha.length : Int); omega⟩) ?_
    first | refine g_elem TrydT_ok Tryd.func27 (hg) ?_ | refine s_elem TrydT_ok (hg) ?_
    first | refine g_call TrydT_ok Tryd.func27 (hstep _) rfl rfl rfl rfl rfl ?_ | refine s_callq TrydT_ok (fun _ => hstep _) rfl rfl rfl ?_
    first | refine g_cnd TrydT_ok Tryd.func27 rfl (fun h3 => ?_) (fun h3 => ?_) | refine g_know TrydT_ok Tryd.func27 rfl (fun h3 => ?_) (fun h3 => ?_) | refine s_know TrydT_ok (fun h3 => ?_) (fun h3 => ?_)
    · have h3 := bneT h3
      rw [if_pos h3] at hno
      subst hno
      refine g_ret_co TrydT_ok (r := .tup [.i (.v (.slice none 0 0)), ii ne]) rfl rfl rfl trivial rfl rfl ?_
      exact coD_tup (.cons (coD_i coI_nil) (CoDL.refl _))
    have h3 := bneF h3
    rw [if_neg (by simpa using h3)] at hno
    first | refine g_cnd TrydT_ok Tryd.func27 rfl (fun h4 => ?_) (fun h4 => ?_) | refine g_know TrydT_ok Tryd.func27 rfl (fun h4 => ?_) (fun h4 => ?_) | refine s_know TrydT_ok (fun h4 => ?_) (fun h4 => ?_)
    · subst h4
      simp only [max63] at hal
      first | refine g_need TrydT_ok Tryd.func27 (by exact ⟨by show (l.length + 1) * 8 ≤ 140737488355328; have := checkSet_len (by decide) hr.alpha; omega, by show l.length + 1 ≤ 9223372036854775807; omega⟩) ?_ | refine s_need TrydT_ok (by exact ⟨by show (l.length + 1) * 8 ≤ 140737488355328; have := checkSet_len (by decide) hr.alpha; omega, by show l.length + 1 ≤ 9223372036854775807; omega⟩) ?_
      refine g_loop ?_
      refine ih (i + 1, l ++ [ev]) _ _ ⟨h2, by simp only [List.length_append, List.length_singleton]; omega, hno⟩ (by simp only; omega) ⟨rfl, rfl, rfl, rfl, rfl, congrArg ii (wsucc h2 hok.al), trivial⟩ rfl ⟨rfl, rfl, congrArg some (oints_app l ev), trivial⟩ rfl rfl
    · subst h4
      refine g_loop ?_
      refine ih (i + 1, l) _ _ ⟨h2, by simp only; omega, hno⟩ (by simp only; omega) ⟨rfl, rfl, rfl, rfl, rfl, congrArg ii (wsucc h2 hal), trivial⟩ rfl ⟨rfl, rfl, rfl, trivial⟩ rfl rfl
  · have h2 : m.alpha.length ≤ i := by simpa using h2
    rw [List.drop_eq_nil_of_le h2] at hno
    simp only [enL] at hno
    subst hno
    refine g_rwk (wk_freeze 41 rfl rfl) ?_
    refine g_ret TrydT_ok (r := .tup [ints l, ii 0]) rfl rfl rfl trivial rfl rfl ?_
    rfl
end Go.AI
