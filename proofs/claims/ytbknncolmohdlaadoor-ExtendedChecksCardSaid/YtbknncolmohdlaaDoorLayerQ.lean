/- The layer of abstract runs, part 17. -/
import Derived.Test.YtbknncolmohdlaaDoorLayerP
set_option linter.unusedSimpArgs false
set_option linter.unusedVariables false
set_option linter.all false
namespace Go.AI
open Go.Proofs
set_option maxRecDepth 20000
theorem overflows37 (O : List Heap) (m : Ext) (i : Nat) (hi : i < m.moves.length) (hm : made m) : ASpec Tryd.prog 37 [extD m, ii i] O (bb (ovfB (allV m.vars) m.moves[i].g)) [] O := by
  have hok := made_ok hm
  have hall := fun O => all35 O m.vars hm.vl hm.v hm.ve
  have hvals := @allV_vals m.vars
  have hal := allV_len hm.vl hm.v
  have hvl := hm.vl
  have hml := hm.ml
  have hg : (m.moves.map mvI)[(i : Int).toNat]? = some (mvI m.moves[i]) := get_mapZ hi
  have hgd := hm.mv _ (List.getElem_mem hi)
  generalize m.moves[i] = x at *
  have hR : ovfB (allV m.vars) x.g = (allV m.vars).any fun v => decide ((evalX x.g v).2 ≠ 0) := rfl
  generalize ovfB (allV m.vars) x.g = R at *
  generalize allV m.vars = A at *
  have hbi : 0 ≤ (i : Int) ∧ (i : Int) < (m.moves.length : Int) := by omega
  refine aspec_intro TrydT_ok Tryd.func37 rfl Tryd.call37 Tryd.ntmps37 (Nat.le_of_ble_eq_true rfl) fun E => ?_
  refine g_run TrydT_ok Tryd.func37 ?_
  first | refine g_call TrydT_ok Tryd.func37 (hall _) rfl rfl rfl rfl rfl ?_ | refine s_callq TrydT_ok (fun _ => hall _) rfl rfl rfl ?_
  refine g_loop ?_
  refine rch_loop2 (fun n : Nat => [(1, ii i), (2, .own 0 2 0 0), (5, intss A), (6, ii 0), (7, ii n)]) (fun _ => [(2, .box (extC m))]) (fun _ => O) 40
    (fun n => n ≤ A.length ∧ R = (A.drop n).any fun v => decide ((evalX x.g v).2 ≠ 0)) (fun n => A.length - n) 0 ⟨Nat.zero_le _, hR⟩ ⟨rfl, rfl, rfl, rfl, rfl, trivial⟩ rfl ⟨rfl, trivial⟩ rfl rfl ?_
  rintro n ⟨hn, hno⟩ ih
  clear hR
  refine g_run TrydT_ok Tryd.func37 ?_
  first | refine g_cnd TrydT_ok Tryd.func37 rfl (fun g1 => ?_) (fun g1 => ?_) | refine g_know TrydT_ok Tryd.func37 rfl (fun g1 => ?_) (fun g1 => ?_) | refine s_know TrydT_ok (fun g1 => ?_) (fun g1 => ?_)
  · have h1 : n < A.length := by simpa using g1
    clear g1
    have hd : A.drop n = A[n] :: A.drop (n + 1) := List.drop_eq_getElem_cons h1
    have hgA : (A.map fun x => [intsI x])[(n : Int).toNat]? = some [intsI A[n]] := get_mapZ (f := fun x => [intsI x]) h1
    have hvl2 := hvals _ (List.getElem_mem h1)
    generalize A[n] = v at *
    rw [hd, List.any_cons] at hno
    have he := fun O => evaluate51A O x.g v hgd.gok (by simp only [max63]; omega)
    generalize evalX x.g v = V at *
    obtain ⟨w, we⟩ := V
    simp only at hno he
    have hbn : 0 ≤ (n : Int) ∧ (n : Int) < (A.length : Int) := by omega
    refine g_drawn TrydT_ok Tryd.func37 mixedT rfl ?_
    first | refine g_need TrydT_ok Tryd.func37 (by exact hbi) ?_ | refine s_need TrydT_ok (by exact hbi) ?_
    first | refine g_elem TrydT_ok Tryd.func37 (hg) ?_ | refine s_elem TrydT_ok (hg) ?_
    first | refine g_need TrydT_ok Tryd.func37 (by exact hbn) ?_ | refine s_need TrydT_ok (by exact hbn) ?_
    first | refine g_elem TrydT_ok Tryd.func37 (hgA) ?_ | refine s_elem TrydT_ok (hgA) ?_
    first | refine g_call TrydT_ok Tryd.func37 (he _) rfl rfl rfl rfl rfl ?_ | refine s_callq TrydT_ok (fun _ => he _) rfl rfl rfl ?_
    refine e_done TrydT_ok Tryd.func37 (by kernel_rfl) ?_
    first | refine g_cnd TrydT_ok Tryd.func37 rfl (fun h2 => ?_) (fun h2 => ?_) | refine g_know TrydT_ok Tryd.func37 rfl (fun h2 => ?_) (fun h2 => ?_) | refine s_know TrydT_ok (fun h2 => ?_) (fun h2 => ?_)
    · have h2 := bneT h2
      rw [decide_eq_true h2, Bool.true_or] at hno
      subst hno
      refine g_ret TrydT_ok (r := bb true) rfl rfl rfl trivial rfl rfl ?_
      rfl
    · have h2 := bneF h2
      rw [decide_eq_false (by simpa using h2), Bool.false_or] at hno
      refine g_loop ?_
      exact ih (n + 1) _ _ ⟨h1, hno⟩ (by omega) ⟨rfl, rfl, rfl, rfl, congrArg ii (wsucc (n := 16) (by omega) (by decide)), trivial⟩ rfl ⟨rfl, trivial⟩ rfl rfl
  · have h1 : A.length ≤ n := by simpa using g1
    rw [List.drop_eq_nil_of_le h1, List.any_nil] at hno
    subst hno
    refine g_ret TrydT_ok (r := bb false) rfl rfl rfl trivial rfl rfl ?_
    rfl
abbrev omvs (l : List Mv) : Ob := .arr 38 8 l.length (l.map mvI) true
theorem omvs_app (l : List Mv) (x : Mv) : Ob.arr 38 8 (l.length + 1) (l.map mvI ++ [mvI x]) true = omvs (l ++ [x]) := by simp
set_option maxHeartbeats 4000000 in
theorem leaves9 {g : Nat} (hg : IsTab g) {ty : TypeId} {fr : Nat × Nat} (O : List Heap) (k : Sk) (hk : skOk k) : ASpecT g (ptab ty fr) Tryd.prog 9 [skD k] O (bb true) [] O := by
  have hkn := fun O => known11 hg (ty := ty) (fr := fr) O
  have hmk := fun O => make16 O k hk
  have hm := make_made hk
  generalize makeR k = m at *
  have hok := made_ok hm
  have hr := made_right hm
  have hml := hm.ml
  obtain ⟨F, hF, h5, h6, -⟩ := made_search6 hm
  have h14 := fun O => reach14 hg (ty := ty) (fr := fr) O m hok
  rw [made_reach hm hF] at h14
  have h15 := fun O => fault15 hg (ty := ty) (fr := fr) O m hok
  rw [made_fault hm hF] at h15
  have hlen := few_states hm h5.ok h5.nd
  have hnc := no_choice h5 h6
  have hul : (unusedR m).length ≤ m.moves.length := unL_len _ _ _
  have hum : ∀ x ∈ unusedR m, ∃ i, ∃ h : i < m.moves.length, x = (i : Int) := fun x hx => by
    unfold unusedR at hx
    rw [mem_unL] at hx
    obtain ⟨i, h1, h2, _⟩ := hx
    exact ⟨i, h1, by omega⟩
  have hkpu := kp_unused m
  have hls := @leaves_same m hm
  have hlm := made_less hm fun x => (allV m.vars).any (holdsB x.g)
  have h34 := fun O => unused34 O m hm
  have h33 := fun O i j => overlap33 O m i j hm
  have h37 := fun O i h => overflows37 O m i h hm
  have hss := fun O => sameStates18 O F.sts F.sts (by simp only [max63]; omega) (fun s hs => okS_len hr (h5.ok s hs))
  have hwe := fun O => wordEqual19 O (badOf F) (badOf F) (badOf_len F)
  have hb0 : F.kind = 0 → badOf F = [] := fun h => by unfold badOf; rw [if_pos h]
  have hb1 : F.kind ≠ 0 → badOf F ≠ [] := fun h => (fault_runs hm h5 h6 h).1
  have hbl := badOf_len F
  generalize hL : lessM m (fun x => (allV m.vars).any (holdsB x.g)) = L at *
  have hL2 : extC L = [ints m.alpha, ii m.locs, ii m.init, ints m.marked, vrs m.vars, mvs L.moves] := by rw [← hL]; rfl
  have h14L := fun (h : searchR L = searchR m) O => reach14 hg (ty := ty) (fr := fr) O L (made_ok hlm)
  have h15L := fun (h : searchR L = searchR m) O => fault15 hg (ty := ty) (fr := fr) O L (made_ok hlm)
  have hrL := fun (h : searchR L = searchR m) => made_reach hlm (h.trans hF)
  have hfL := fun (h : searchR L = searchR m) => made_fault hlm (h.trans hF)
  simp only at h14 h15
  clear h5 h6 hL
  generalize unusedR m = u at *
  generalize badOf F = B at *
  generalize F.sts = ST at *
  generalize F.kind = K at *
  generalize searchR m = SR at *
  refine aspecT_stop [14, 23, 27, 33] TrydT_ok Tryd.func9 rfl Tryd.call9 Tryd.ntmps9 (Nat.le_of_ble_eq_true rfl) fun E hE => ?_
  refine g_run TrydT_ok Tryd.func9 ?_
  refine g_callT TrydT_ok Tryd.func9 hE (hkn _) rfl rfl rfl rfl rfl rfl ?_
  repeat (first | refine g_cnd TrydT_ok Tryd.func9 rfl (fun _ => ?_) (fun h => absurd h (by decide)) | refine g_cnd TrydT_ok Tryd.func9 rfl (fun h => absurd h (by decide)) (fun _ => ?_) | refine g_know TrydT_ok Tryd.func9 rfl (fun _ => ?_) (fun h => absurd h (by decide)) | refine g_know TrydT_ok Tryd.func9 rfl (fun h => absurd h (by decide)) (fun _ => ?_) | refine s_know TrydT_ok (fun _ => ?_) (fun h => absurd h (by decide)) | refine s_know TrydT_ok (fun h => absurd h (by decide)) (fun _ => ?_))
  first | refine g_call TrydT_ok Tryd.func9 (hmk _) rfl rfl rfl rfl rfl ?_ | refine s_callq TrydT_ok (fun _ => hmk _) rfl rfl rfl ?_
  first | refine g_call TrydT_ok Tryd.func9 (h34 _) rfl rfl rfl rfl rfl ?_ | refine s_callq TrydT_ok (fun _ => h34 _) rfl rfl rfl ?_
  repeat (first | refine g_cnd TrydT_ok Tryd.func9 rfl (fun _ => ?_) (fun h => absurd h (by decide)) | refine g_cnd TrydT_ok Tryd.func9 rfl (fun h => absurd h (by decide)) (fun _ => ?_) | refine g_know TrydT_ok Tryd.func9 rfl (fun _ => ?_) (fun h => absurd h (by decide)) | refine g_know TrydT_ok Tryd.func9 rfl (fun h => absurd h (by decide)) (fun _ => ?_) | refine s_know TrydT_ok (fun _ => ?_) (fun h => absurd h (by decide)) | refine s_know TrydT_ok (fun h => absurd h (by decide)) (fun _ => ?_))
  refine g_loop ?_
  refine rch_wk (wk_nilbox2 6 60 38 8 (pre := [ints m.alpha, ii m.locs, ii m.init, ints m.marked, vrs m.vars]) (post := []) rfl rfl rfl) ?_
  refine rch_loop2 (fun x : Nat × List Mv => [(3, .own 0 3 0 0), (4, ints u), (6, .own 0 6 0 0), (7, ii x.1)]) (fun x => [(3, .box (extC m)), (6, .box [ints m.alpha, ii m.locs, ii m.init, ints m.marked, vrs m.vars, .osl 0 60]), (60, omvs x.2)]) (fun _ => O) 182
    (fun x => x.1 ≤ m.moves.length ∧ x.2.length ≤ x.1 ∧ kp u m.moves 0 = x.2 ++ kp u (m.moves.drop x.1) x.1) (fun x => m.moves.length - x.1) (0, []) ⟨Nat.zero_le _, Nat.le_refl _, rfl⟩ ⟨rfl, rfl, rfl, rfl, trivial⟩ rfl ⟨rfl, rfl, rfl, trivial⟩ rfl rfl ?_
  rintro ⟨i, acc⟩ ⟨hi, hal, hno⟩ ih
  simp only at hi hal hno
  refine g_run TrydT_ok Tryd.func9 ?_
  first | refine g_cnd TrydT_ok Tryd.func9 rfl (fun g1 => ?_) (fun g1 => ?_) | refine g_know TrydT_ok Tryd.func9 rfl (fun g1 => ?_) (fun g1 => ?_) | refine s_know TrydT_ok (fun g1 => ?_) (fun g1 => ?_)
  · have h1 : i < m.moves.length := by simpa using g1
    clear g1
    have hd : m.moves.drop i = m.moves[i] :: m.moves.drop (i + 1) := List.drop_eq_getElem_cons h1
    have hgi : (m.moves.map mvI)[(i : Int).toNat]? = some (mvI m.moves[i]) := get_mapZ h1
    generalize m.moves[i] = x at *
    rw [hd] at hno
    simp only [kp] at hno
    have hbi : 0 ≤ (i : Int) ∧ (i : Int) < (m.moves.length : Int) := by omega
    first | refine g_call TrydT_ok Tryd.func9 (has24 _ u (i : Int) (by simp only [max63]; omega)) rfl rfl rfl rfl rfl ?_ | refine s_callq TrydT_ok (fun _ => has24 _ u (i : Int) (by simp only [max63]; omega)) rfl rfl rfl ?_
    first | refine g_cnd TrydT_ok Tryd.func9 rfl (fun h2 => ?_) (fun h2 => ?_) | refine g_know TrydT_ok Tryd.func9 rfl (fun h2 => ?_) (fun h2 => ?_) | refine s_know TrydT_ok (fun h2 => ?_) (fun h2 => ?_)
    · have h2 : ¬ (i : Int) ∈ u := by simpa using h2
      rw [if_neg h2] at hno
      refine g_drawn TrydT_ok Tryd.func9 mixedT rfl ?_
      first | refine g_need TrydT_ok Tryd.func9 (by exact hbi) ?_ | refine s_need TrydT_ok (by exact hbi) ?_
      first | refine g_elem TrydT_ok Tryd.func9 (hgi) ?_ | refine s_elem TrydT_ok (hgi) ?_
      refine e_tail TrydT_ok Tryd.func9 ([8, 9, 10]) (by kernel_rfl) (by kernel_rfl) ?_
      first | refine g_need TrydT_ok Tryd.func9 (by exact ⟨by show (acc.length + 1) * 96 ≤ 140737488355328; omega, by show acc.length + 1 ≤ 9223372036854775807; omega⟩) ?_ | refine s_need TrydT_ok (by exact ⟨by show (acc.length + 1) * 96 ≤ 140737488355328; omega, by show acc.length + 1 ≤ 9223372036854775807; omega⟩) ?_
      refine g_loop ?_
      refine ih (i + 1, acc ++ [x]) _ _ ⟨h1, by simp only [List.length_append, List.length_singleton]; omega, by rw [hno]; simp⟩ (by simp only; omega) ⟨rfl, rfl, rfl, congrArg ii (wsucc (n := 8) (by omega) (by decide)), trivial⟩ rfl ⟨rfl, rfl, congrArg some (omvs_app acc x), trivial⟩ rfl rfl
    · have h2 : (i : Int) ∈ u := by simpa using h2
      rw [if_pos h2] at hno
      refine g_loop ?_
      exact ih (i + 1, acc) _ _ ⟨h1, by simp only; omega, hno⟩ (by simp only; omega) ⟨rfl, rfl, rfl, congrArg ii (wsucc (n := 8) (by omega) (by decide)), trivial⟩ rfl ⟨rfl, rfl, rfl, trivial⟩ rfl rfl
  have h1 : m.moves.length ≤ i := by simpa using g1
  clear g1 ih
  rw [List.drop_eq_nil_of_le h1] at hno
  simp only [kp, List.append_nil] at hno
  rw [hkpu] at hno
  subst hno
  refine g_stop ?_
  refine rch_wk (wk_freeze 60 rfl rfl) ?_
  refine rch_wk (wk_imm rfl) ?_
  refine rch_meet (l := [(3, .own 0 3 0 0), (4, ints u), (6, .own 0 6 0 0)]) (Hv := [(3, .box (extC m)), (6, .box (extC L))]) (n := 182) ?_ ⟨rfl, rfl, rfl, trivial⟩ rfl ⟨rfl, by rw [hL2]; rfl, trivial⟩ rfl rfl
  clear h34 hkpu hL2 hmk hkn h1 hi hal
  refine g_run TrydT_ok Tryd.func9 ?_
  refine g_go TrydT_ok Tryd.func9 ?_
  refine g_loop ?_
  refine rch_loop2 (fun x : Nat × Bool => [(3, .own 0 3 0 0), (4, ints u), (6, .own 0 6 0 0), (8, bb x.2), (9, ii x.1)]) (fun _ => [(3, .box (extC m)), (6, .box (extC L))]) (fun _ => O) 182
    (fun x => x.1 ≤ m.moves.length ∧ (x.2 = false → ∀ i j : Nat, j < i → i < x.1 → (overR m i j).2.1 = false)) (fun x => m.moves.length - x.1) (0, false) ⟨Nat.zero_le _, fun _ i j _ h => by omega⟩ ⟨rfl, rfl, rfl, rfl, rfl, trivial⟩ rfl ⟨rfl, rfl, trivial⟩ rfl rfl ?_
  rintro ⟨i, b⟩ ⟨hi, hb⟩ ih
  simp only at hi hb
  refine g_run TrydT_ok Tryd.func9 ?_
  first | refine g_cnd TrydT_ok Tryd.func9 rfl (fun g1 => ?_) (fun g1 => ?_) | refine g_know TrydT_ok Tryd.func9 rfl (fun g1 => ?_) (fun g1 => ?_) | refine s_know TrydT_ok (fun g1 => ?_) (fun g1 => ?_)
  · have h1 : i < m.moves.length := by simpa using g1
    clear g1
    refine g_loop ?_
    refine rch_loop2 (fun x : Nat × Bool => [(3, .own 0 3 0 0), (4, ints u), (6, .own 0 6 0 0), (8, bb x.2), (9, ii i), (10, ii x.1)]) (fun _ => [(3, .box (extC m)), (6, .box (extC L))]) (fun _ => O) 182
      (fun x => x.1 ≤ i ∧ (x.2 = false → (∀ i' j : Nat, j < i' → i' < i → (overR m i' j).2.1 = false) ∧ ∀ j : Nat, j < x.1 → (overR m i j).2.1 = false)) (fun x => i - x.1) (0, b) ⟨Nat.zero_le _, fun h => ⟨hb h, fun j h => by omega⟩⟩ ⟨rfl, rfl, rfl, rfl, rfl, rfl, trivial⟩ rfl ⟨rfl, rfl, trivial⟩ rfl rfl ?_
    rintro ⟨j, b2⟩ ⟨hj, hb2⟩ ih2
    simp only at hj hb2
    refine g_run TrydT_ok Tryd.func9 ?_
    first | refine g_cnd TrydT_ok Tryd.func9 rfl (fun g2 => ?_) (fun g2 => ?_) | refine g_know TrydT_ok Tryd.func9 rfl (fun g2 => ?_) (fun g2 => ?_) | refine s_know TrydT_ok (fun g2 => ?_) (fun g2 => ?_)
    · have h2 : j < i := by simpa using g2
      clear g2
      have h33 := fun O => h33 O i j
      have hstep : ∀ fnd, fnd = (overR m i j).2.1 → ∀ b3, (b3 = false → b2 = false ∧ fnd = false) → b3 = false → (∀ i' j : Nat, j < i' → i' < i → (overR m i' j).2.1 = false) ∧ ∀ j' : Nat, j' < j + 1 → (overR m i j').2.1 = false := by
        intro fnd hf b3 h3 h4
        obtain ⟨h5, h6⟩ := h3 h4
        obtain ⟨h7, h8⟩ := hb2 h5
        refine ⟨h7, fun j' hj' => ?_⟩
        by_cases e : j' = j
        · subst e; rw [← hf]; exact h6
        · exact h8 j' (by omega)
      generalize hov : overR m (i : Int) (j : Int) = ov at h33 hstep
      obtain ⟨ol, ob, oe⟩ := ov
      simp only at h33 hstep
      first | refine g_call TrydT_ok Tryd.func9 (h33 _) rfl rfl rfl rfl rfl ?_ | refine s_callq TrydT_ok (fun _ => h33 _) rfl rfl rfl ?_
      cases b2 with
      | true =>
        first | refine g_cnd TrydT_ok Tryd.func9 rfl (fun h3 => ?_) (fun h3 => ?_) | refine g_know TrydT_ok Tryd.func9 rfl (fun h3 => ?_) (fun h3 => ?_) | refine s_know TrydT_ok (fun h3 => ?_) (fun h3 => ?_)
        rotate_left
        · exact absurd h3 (by simp)
        refine g_loop ?_
        exact ih2 (j + 1, true) _ _ ⟨h2, fun h => by cases h⟩ (by simp only; omega) ⟨rfl, rfl, rfl, rfl, rfl, congrArg ii (wsucc (n := 8) (by omega) (by decide)), trivial⟩ rfl ⟨rfl, rfl, trivial⟩ rfl rfl
      | false =>
        first | refine g_cnd TrydT_ok Tryd.func9 rfl (fun h3 => ?_) (fun h3 => ?_) | refine g_know TrydT_ok Tryd.func9 rfl (fun h3 => ?_) (fun h3 => ?_) | refine s_know TrydT_ok (fun h3 => ?_) (fun h3 => ?_)
        · exact absurd h3 (by simp)
        refine g_loop ?_
        exact ih2 (j + 1, ob) _ _ ⟨h2, fun h => hstep ob rfl ob (fun h => ⟨rfl, h⟩) h⟩ (by simp only; omega) ⟨rfl, rfl, rfl, rfl, rfl, congrArg ii (wsucc (n := 8) (by omega) (by decide)), trivial⟩ rfl ⟨rfl, rfl, trivial⟩ rfl rfl
    · have h2 : i ≤ j := by simpa using g2
      clear g2 ih2
      refine g_loop ?_
      refine ih (i + 1, b2) _ _ ⟨h1, fun h i' j' hj' hi' => ?_⟩ (by simp only; omega) ⟨rfl, rfl, rfl, rfl, congrArg ii (wsucc (n := 8) (by omega) (by decide)), trivial⟩ rfl ⟨rfl, rfl, trivial⟩ rfl rfl
      obtain ⟨h3, h4⟩ := hb2 h
      by_cases e : i' = i
      · subst e; exact h4 j' (by omega)
      · exact h3 i' j' hj' (by omega)
  have h1 : m.moves.length ≤ i := by simpa using g1
  clear g1 ih
  have hb : b = false → K ≠ 18 := fun h => hnc fun i' j' hj' hi' => hb h i' j' hj' (by omega)
  clear hnc h33
  refine g_stop ?_
  refine rch_meet (l := [(3, .own 0 3 0 0), (4, ints u), (6, .own 0 6 0 0), (8, bb b)]) (Hv := [(3, .box (extC m)), (6, .box (extC L))]) (n := 182) ?_ ⟨rfl, rfl, rfl, rfl, trivial⟩ rfl ⟨rfl, rfl, trivial⟩ rfl rfl
  apply join_p (P := True) (s6 := { σ := [(3, .own 0 3 0 0), (4, ints u), (6, .own 0 6 0 0), (14, stasD ST), (16, ints B), (18, ii K)], S := [(3, .box (extC m)), (6, .box (extC L))] :: O, n := 182 })
  · intro J
    have hfin : ∀ h2 : (!(decide (K ≠ 0) == (K != 0))) = true, False := fun h => by by_cases hK : K = 0 <;> simp [hK] at h
    have hlast : ∀ h2 : (!(decide (K ≠ 0) == decide ((B.length : Int) > 0))) = true, False := fun h => by
      by_cases hK : K = 0
      · rw [hb0 hK] at h
        simp [hK] at h
      · have := List.length_pos_iff.2 (hb1 hK)
        rw [decide_eq_true (show (B.length : Int) > 0 by omega)] at h
        simp [hK] at h
    refine g_run TrydT_ok Tryd.func9 ?_
    refine g_go TrydT_ok Tryd.func9 ?_
    refine g_callT TrydT_ok Tryd.func9 hE (h14 _) rfl rfl rfl rfl rfl rfl ?_
    refine g_callT TrydT_ok Tryd.func9 hE (h15 _) rfl rfl rfl rfl rfl rfl ?_
    repeat (first | refine g_cnd TrydT_ok Tryd.func9 rfl (fun _ => ?_) (fun h => absurd h (by decide)) | refine g_cnd TrydT_ok Tryd.func9 rfl (fun h => absurd h (by decide)) (fun _ => ?_) | refine g_know TrydT_ok Tryd.func9 rfl (fun _ => ?_) (fun h => absurd h (by decide)) | refine g_know TrydT_ok Tryd.func9 rfl (fun h => absurd h (by decide)) (fun _ => ?_) | refine s_know TrydT_ok (fun _ => ?_) (fun h => absurd h (by decide)) | refine s_know TrydT_ok (fun h => absurd h (by decide)) (fun _ => ?_))
    cases b with
    | true =>
      repeat (first | refine g_cnd TrydT_ok Tryd.func9 rfl (fun _ => ?_) (fun h => absurd h (by decide)) | refine g_cnd TrydT_ok Tryd.func9 rfl (fun h => absurd h (by decide)) (fun _ => ?_) | refine g_know TrydT_ok Tryd.func9 rfl (fun _ => ?_) (fun h => absurd h (by decide)) | refine g_know TrydT_ok Tryd.func9 rfl (fun h => absurd h (by decide)) (fun _ => ?_) | refine s_know TrydT_ok (fun _ => ?_) (fun h => absurd h (by decide)) | refine s_know TrydT_ok (fun h => absurd h (by decide)) (fun _ => ?_))
      first | refine g_cnd TrydT_ok Tryd.func9 rfl (fun h2 => ?_) (fun h2 => ?_) | refine g_know TrydT_ok Tryd.func9 rfl (fun h2 => ?_) (fun h2 => ?_) | refine s_know TrydT_ok (fun h2 => ?_) (fun h2 => ?_)
      · exact (hfin h2).elim
      first | refine g_cnd TrydT_ok Tryd.func9 rfl (fun h3 => ?_) (fun h3 => ?_) | refine g_know TrydT_ok Tryd.func9 rfl (fun h3 => ?_) (fun h3 => ?_) | refine s_know TrydT_ok (fun h3 => ?_) (fun h3 => ?_)
      · exact (hlast h3).elim
      refine g_stop ?_
      exact rch_meet (J trivial) ⟨rfl, rfl, rfl, rfl, rfl, rfl, trivial⟩ rfl ⟨rfl, rfl, trivial⟩ rfl rfl
    | false =>
      repeat (first | refine g_cnd TrydT_ok Tryd.func9 rfl (fun _ => ?_) (fun h => absurd h (by decide)) | refine g_cnd TrydT_ok Tryd.func9 rfl (fun h => absurd h (by decide)) (fun _ => ?_) | refine g_know TrydT_ok Tryd.func9 rfl (fun _ => ?_) (fun h => absurd h (by decide)) | refine g_know TrydT_ok Tryd.func9 rfl (fun h => absurd h (by decide)) (fun _ => ?_) | refine s_know TrydT_ok (fun _ => ?_) (fun h => absurd h (by decide)) | refine s_know TrydT_ok (fun h => absurd h (by decide)) (fun _ => ?_))
      first | refine g_cnd TrydT_ok Tryd.func9 rfl (fun h4 => ?_) (fun h4 => ?_) | refine g_know TrydT_ok Tryd.func9 rfl (fun h4 => ?_) (fun h4 => ?_) | refine s_know TrydT_ok (fun h4 => ?_) (fun h4 => ?_)
      · exact absurd (beqT h4) (hb rfl)
      first | refine g_cnd TrydT_ok Tryd.func9 rfl (fun h2 => ?_) (fun h2 => ?_) | refine g_know TrydT_ok Tryd.func9 rfl (fun h2 => ?_) (fun h2 => ?_) | refine s_know TrydT_ok (fun h2 => ?_) (fun h2 => ?_)
      · exact (hfin h2).elim
      first | refine g_cnd TrydT_ok Tryd.func9 rfl (fun h3 => ?_) (fun h3 => ?_) | refine g_know TrydT_ok Tryd.func9 rfl (fun h3 => ?_) (fun h3 => ?_) | refine s_know TrydT_ok (fun h3 => ?_) (fun h3 => ?_)
      · exact (hlast h3).elim
      refine g_stop ?_
      exact rch_meet (J trivial) ⟨rfl, rfl, rfl, rfl, rfl, rfl, trivial⟩ rfl ⟨rfl, rfl, trivial⟩ rfl rfl
  · intro _
    clear h14 h15 hb
    refine g_run TrydT_ok Tryd.func9 ?_
    refine g_go TrydT_ok Tryd.func9 ?_
    refine g_loop ?_
    refine rch_loop2 (fun n : Nat => [(3, .own 0 3 0 0), (4, ints u), (6, .own 0 6 0 0), (14, stasD ST), (16, ints B), (18, ii K), (20, ii n)]) (fun _ => [(3, .box (extC m)), (6, .box (extC L))]) (fun _ => O) 182
      (fun n => n ≤ u.length ∧ ∀ x ∈ u.take n, ovfB (allV m.vars) (m.moves.getD x.toNat ⟨0, 0, 0, zeroE, []⟩).g = false) (fun n => u.length - n) 0 ⟨Nat.zero_le _, by simp⟩ ⟨rfl, rfl, rfl, rfl, rfl, rfl, rfl, trivial⟩ rfl ⟨rfl, rfl, trivial⟩ rfl rfl ?_
    rintro n ⟨hn, hno⟩ ih
    refine g_run TrydT_ok Tryd.func9 ?_
    first | refine g_cnd TrydT_ok Tryd.func9 rfl (fun g1 => ?_) (fun g1 => ?_) | refine g_know TrydT_ok Tryd.func9 rfl (fun g1 => ?_) (fun g1 => ?_) | refine s_know TrydT_ok (fun g1 => ?_) (fun g1 => ?_)
    · have h2 : n < u.length := by simpa using g1
      clear g1
      have hgu : (u.map fun x => [vi x])[(n : Int).toNat]? = some [vi u[n]] := get_mapZ (f := fun x => [vi x]) h2
      have hts : u.take (n + 1) = u.take n ++ [u[n]] := by rw [List.take_add_one, List.getElem?_eq_getElem h2]; rfl
      obtain ⟨x, hx, e⟩ := hum _ (List.getElem_mem h2)
      rw [e] at hgu hts
      have h37 := fun O => h37 O x hx
      have hget : (m.moves.getD ((x : Int)).toNat ⟨0, 0, 0, zeroE, []⟩) = m.moves[x] := by
        rw [Int.toNat_natCast, List.getD_eq_getElem?_getD, List.getElem?_eq_getElem hx]
        rfl
      have hnext : ovfB (allV m.vars) m.moves[x].g = false → ∀ y ∈ u.take (n + 1), ovfB (allV m.vars) (m.moves.getD y.toNat ⟨0, 0, 0, zeroE, []⟩).g = false := by
        intro h y hy
        rw [hts] at hy
        rcases List.mem_append.1 hy with hy | hy
        · exact hno y hy
        · simp only [List.mem_singleton] at hy
          subst hy
          rw [hget]
          exact h
      generalize ovfB (allV m.vars) m.moves[x].g = ov at *
      have hbn : 0 ≤ (n : Int) ∧ (n : Int) < (u.length : Int) := by omega
      first | refine g_need TrydT_ok Tryd.func9 (by exact hbn) ?_ | refine s_need TrydT_ok (by exact hbn) ?_
      first | refine g_elem TrydT_ok Tryd.func9 (hgu) ?_ | refine s_elem TrydT_ok (hgu) ?_
      first | refine g_cnd TrydT_ok Tryd.func9 rfl (fun h3 => ?_) (fun h3 => ?_) | refine g_know TrydT_ok Tryd.func9 rfl (fun h3 => ?_) (fun h3 => ?_) | refine s_know TrydT_ok (fun h3 => ?_) (fun h3 => ?_)
      · have h3 : (x : Int) < 0 := of_decide_eq_true h3
        omega
      first | refine g_cnd TrydT_ok Tryd.func9 rfl (fun h4 => ?_) (fun h4 => ?_) | refine g_know TrydT_ok Tryd.func9 rfl (fun h4 => ?_) (fun h4 => ?_) | refine s_know TrydT_ok (fun h4 => ?_) (fun h4 => ?_)
      · have h4 : (x : Int) ≥ (m.moves.length : Int) := of_decide_eq_true h4
        omega
      first | refine g_call TrydT_ok Tryd.func9 (h37 _) rfl rfl rfl rfl rfl ?_ | refine s_callq TrydT_ok (fun _ => h37 _) rfl rfl rfl ?_
      first | refine g_cnd TrydT_ok Tryd.func9 rfl (fun h5 => ?_) (fun h5 => ?_) | refine g_know TrydT_ok Tryd.func9 rfl (fun h5 => ?_) (fun h5 => ?_) | refine s_know TrydT_ok (fun h5 => ?_) (fun h5 => ?_)
      · refine g_ret TrydT_ok (r := bb true) rfl rfl rfl trivial rfl rfl ?_
        rfl
      · refine g_loop ?_
        exact ih (n + 1) _ _ ⟨h2, hnext h5⟩ (by omega) ⟨rfl, rfl, rfl, rfl, rfl, rfl, congrArg ii (wsucc (n := 8) (by omega) (by decide)), trivial⟩ rfl ⟨rfl, rfl, trivial⟩ rfl rfl
    · have h2 : u.length ≤ n := by simpa using g1
      clear g1 ih
      rw [List.take_of_length_le h2] at hno
      have e := hls hno
      have h14L := h14L e
      have h15L := h15L e
      rw [hrL e] at h14L
      rw [hfL e] at h15L
      simp only at h14L h15L
      refine g_stop ?_
      refine g_run TrydT_ok Tryd.func9 ?_
      refine g_go TrydT_ok Tryd.func9 ?_
      refine g_callT TrydT_ok Tryd.func9 hE (h14L _) rfl rfl rfl rfl rfl rfl ?_
      refine g_callT TrydT_ok Tryd.func9 hE (h15L _) rfl rfl rfl rfl rfl rfl ?_
      repeat (first | refine g_cnd TrydT_ok Tryd.func9 rfl (fun _ => ?_) (fun h => absurd h (by decide)) | refine g_cnd TrydT_ok Tryd.func9 rfl (fun h => absurd h (by decide)) (fun _ => ?_) | refine g_know TrydT_ok Tryd.func9 rfl (fun _ => ?_) (fun h => absurd h (by decide)) | refine g_know TrydT_ok Tryd.func9 rfl (fun h => absurd h (by decide)) (fun _ => ?_) | refine s_know TrydT_ok (fun _ => ?_) (fun h => absurd h (by decide)) | refine s_know TrydT_ok (fun h => absurd h (by decide)) (fun _ => ?_))
      first | refine g_call TrydT_ok Tryd.func9 (hss _) rfl rfl rfl rfl rfl ?_ | refine s_callq TrydT_ok (fun _ => hss _) rfl rfl rfl ?_
      first | refine g_cnd TrydT_ok Tryd.func9 rfl (fun h3 => ?_) (fun h3 => ?_) | refine g_know TrydT_ok Tryd.func9 rfl (fun h3 => ?_) (fun h3 => ?_) | refine s_know TrydT_ok (fun h3 => ?_) (fun h3 => ?_)
      rotate_left
      · exact absurd h3 (by simp)
      first | refine g_call TrydT_ok Tryd.func9 (hwe _) rfl rfl rfl rfl rfl ?_ | refine s_callq TrydT_ok (fun _ => hwe _) rfl rfl rfl ?_
      first | refine g_cnd TrydT_ok Tryd.func9 rfl (fun h4 => ?_) (fun h4 => ?_) | refine g_know TrydT_ok Tryd.func9 rfl (fun h4 => ?_) (fun h4 => ?_) | refine s_know TrydT_ok (fun h4 => ?_) (fun h4 => ?_)
      rotate_left
      · exact absurd h4 (by simp)
      refine g_ret TrydT_ok (r := bb (K == K)) rfl rfl rfl trivial rfl rfl ?_
      simp
end Go.AI

namespace Go.AI
open Go.Proofs
set_option maxRecDepth 20000
mutual
/-- Whether an expression is small, and what is left of the count. -/
def fewR : Ex → Int → Int → Bool × Int
  | .mk _ _ _ args, lvl, c => if c = 0 ∨ lvl > 10 ∨ args.length > 4 then (false, c) else fewRs args (lvl + 1) (c - 1)
def fewRs : List Ex → Int → Int → Bool × Int
  | [], _, c => (true, c)
  | e :: r, lvl, c => if (fewR e lvl c).1 = false then (false, (fewR e lvl c).2) else fewRs r lvl (fewR e lvl c).2
end
mutual
theorem fewR_cnt : ∀ (x : Ex) (lvl c : Int), 0 ≤ c → c ≤ 80 → 0 ≤ (fewR x lvl c).2 ∧ (fewR x lvl c).2 ≤ 80
  | .mk _ _ _ args, lvl, c, h0, h1 => by
    simp only [fewR]
    split
    · exact ⟨h0, h1⟩
    · exact fewRs_cnt args (lvl + 1) (c - 1) (by omega) (by omega)
theorem fewRs_cnt : ∀ (l : List Ex) (lvl c : Int), 0 ≤ c → c ≤ 80 → 0 ≤ (fewRs l lvl c).2 ∧ (fewRs l lvl c).2 ≤ 80
  | [], lvl, c, h0, h1 => ⟨h0, h1⟩
  | e :: r, lvl, c, h0, h1 => by
    have := fewR_cnt e lvl c h0 h1
    simp only [fewRs]
    split
    · exact this
    · exact fewRs_cnt r lvl _ this.1 this.2
end
theorem few89 : ∀ (N : Nat) (x : Ex), SizeOf.sizeOf x < N → exOk x → ∀ (O : List Heap) (d nm : Nat) (lvl c : Int), objAt O d nm = some (.box [ii c]) → 0 ≤ c → c ≤ 80 → 0 ≤ lvl → lvl ≤ 11 →
    ASpec Tryd.prog 89 [exD x, ii lvl, .own d nm 0 0] O (bb (fewR x lvl c).1) [] (setAt O d nm (.box [ii (fewR x lvl c).2])) := by
  intro N
  induction N with
  | zero => intro x h; omega
  | succ N ihN =>
    intro x hs hok O d nm lvl c ho hc0 hc1 hl0 hl1
    obtain ⟨op, v, ix, args⟩ := x
    simp only [exOk] at hok
    have hch : ∀ e ∈ args, ∀ (O : List Heap) (d nm : Nat) (lvl c : Int), objAt O d nm = some (.box [ii c]) → 0 ≤ c → c ≤ 80 → 0 ≤ lvl → lvl ≤ 11 →
        ASpec Tryd.prog 89 [exD e, ii lvl, .own d nm 0 0] O (bb (fewR e lvl c).1) [] (setAt O d nm (.box [ii (fewR e lvl c).2])) := by
      intro e he
      refine ihN e ?_ (exOks_mem hok.2 e he)
      have := List.sizeOf_lt_of_mem he
      simp only [Ex.mk.sizeOf_spec] at hs
      omega
    have hlen : args.length ≤ max63 := hok.1
    generalize hR : fewR (.mk op v ix args) lvl c = R
    have hO1 : ∀ H, objAt (H :: O) (d + 1) nm = some (.box [ii c]) := fun H => by simpa [objAt] using ho
    have hw : c ≠ 0 → IntKind.i64.wrap (c - 1) = c - 1 := fun h => w64 (by omega) (by omega)
    have hwl : IntKind.i64.wrap (lvl + 1) = lvl + 1 := w64 (by omega) (by omega)
    have early : c = 0 ∨ lvl > 10 ∨ args.length > 4 → R = (false, c) := fun h => by rw [← hR]; simp only [fewR]; rw [if_pos h]
    have body : ¬(c = 0 ∨ lvl > 10 ∨ args.length > 4) → R = fewRs args (lvl + 1) (c - 1) := fun h => by rw [← hR]; simp only [fewR]; rw [if_neg h]
    refine aspec_stop [] TrydT_ok Tryd.func89 rfl Tryd.call89 Tryd.ntmps89 (Nat.le_of_ble_eq_true rfl) fun E => ?_
    refine g_run TrydT_ok Tryd.func89 ?_
    first | refine g_obj TrydT_ok Tryd.func89 (hO1 _) ?_ | refine s_obj TrydT_ok (hO1 _) ?_
    first | refine g_cnd TrydT_ok Tryd.func89 rfl (fun h1 => ?_) (fun h1 => ?_) | refine g_know TrydT_ok Tryd.func89 rfl (fun h1 => ?_) (fun h1 => ?_) | refine s_know TrydT_ok (fun h1 => ?_) (fun h1 => ?_)
    · have := early (.inl (beqT h1))
      subst this
      repeat (first | refine g_cnd TrydT_ok Tryd.func89 rfl (fun _ => ?_) (fun h => absurd h (by decide)) | refine g_cnd TrydT_ok Tryd.func89 rfl (fun h => absurd h (by decide)) (fun _ => ?_) | refine g_know TrydT_ok Tryd.func89 rfl (fun _ => ?_) (fun h => absurd h (by decide)) | refine g_know TrydT_ok Tryd.func89 rfl (fun h => absurd h (by decide)) (fun _ => ?_) | refine s_know TrydT_ok (fun _ => ?_) (fun h => absurd h (by decide)) | refine s_know TrydT_ok (fun h => absurd h (by decide)) (fun _ => ?_))
      refine g_rwk (wk_S (S' := _ :: setAt O d nm (.box [ii c])) (objAt_cons (objAt_set_id ho))) ?_
      refine g_ret TrydT_ok (r := bb false) rfl rfl rfl trivial rfl rfl ?_
      rfl
    have h1 := beqF h1
    first | refine g_cnd TrydT_ok Tryd.func89 rfl (fun h2 => ?_) (fun h2 => ?_) | refine g_know TrydT_ok Tryd.func89 rfl (fun h2 => ?_) (fun h2 => ?_) | refine s_know TrydT_ok (fun h2 => ?_) (fun h2 => ?_)
    · have := early (.inr (.inl (by have := of_decide_eq_true h2; omega)))
      subst this
      repeat (first | refine g_cnd TrydT_ok Tryd.func89 rfl (fun _ => ?_) (fun h => absurd h (by decide)) | refine g_cnd TrydT_ok Tryd.func89 rfl (fun h => absurd h (by decide)) (fun _ => ?_) | refine g_know TrydT_ok Tryd.func89 rfl (fun _ => ?_) (fun h => absurd h (by decide)) | refine g_know TrydT_ok Tryd.func89 rfl (fun h => absurd h (by decide)) (fun _ => ?_) | refine s_know TrydT_ok (fun _ => ?_) (fun h => absurd h (by decide)) | refine s_know TrydT_ok (fun h => absurd h (by decide)) (fun _ => ?_))
      refine g_rwk (wk_S (S' := _ :: setAt O d nm (.box [ii c])) (objAt_cons (objAt_set_id ho))) ?_
      refine g_ret TrydT_ok (r := bb false) rfl rfl rfl trivial rfl rfl ?_
      rfl
    have h2 : ¬ lvl > 10 := by have := of_decide_eq_false h2; omega
    first | refine g_cnd TrydT_ok Tryd.func89 rfl (fun h3 => ?_) (fun h3 => ?_) | refine g_know TrydT_ok Tryd.func89 rfl (fun h3 => ?_) (fun h3 => ?_) | refine s_know TrydT_ok (fun h3 => ?_) (fun h3 => ?_)
    · have := early (.inr (.inr (by have := of_decide_eq_true h3; omega)))
      subst this
      refine g_rwk (wk_S (S' := _ :: setAt O d nm (.box [ii c])) (objAt_cons (objAt_set_id ho))) ?_
      refine g_ret TrydT_ok (r := bb false) rfl rfl rfl trivial rfl rfl ?_
      rfl
    have h3 : ¬ args.length > 4 := by have := of_decide_eq_false h3; omega
    have hw := hw h1
    have body := body (by omega)
    clear early hR
    first | refine g_obj TrydT_ok Tryd.func89 (hO1 _) ?_ | refine s_obj TrydT_ok (hO1 _) ?_
    first | refine g_obj TrydT_ok Tryd.func89 (hO1 _) ?_ | refine s_obj TrydT_ok (hO1 _) ?_
    refine g_loop ?_
    refine rch_loop2 (fun x : Nat × Int => [(1, ii lvl), (2, .own (d + 1) nm 0 0), (3, .own 0 3 0 0), (7, ii x.1)]) (fun _ => [(3, .box [ii op, ii v, ii ix, exs args])]) (fun x => setAt O d nm (.box [ii x.2])) 44
      (fun x => x.1 ≤ args.length ∧ 0 ≤ x.2 ∧ x.2 ≤ 80 ∧ R = fewRs (args.drop x.1) (lvl + 1) x.2) (fun x => args.length - x.1) (0, IntKind.i64.wrap (c - 1)) ⟨Nat.zero_le _, by simp only [hw]; omega, by simp only [hw]; omega, by simp only [hw]; exact body⟩ ⟨rfl, rfl, rfl, rfl, trivial⟩ rfl ⟨rfl, trivial⟩ rfl rfl ?_
    rintro ⟨i, c'⟩ ⟨hi, hc0', hc1', hno⟩ ih
    simp only at hi hc0' hc1' hno
    refine g_run TrydT_ok Tryd.func89 ?_
    first | refine g_cnd TrydT_ok Tryd.func89 rfl (fun h5 => ?_) (fun h5 => ?_) | refine g_know TrydT_ok Tryd.func89 rfl (fun h5 => ?_) (fun h5 => ?_) | refine s_know TrydT_ok (fun h5 => ?_) (fun h5 => ?_)
    · have h5 : i < args.length := by simpa using h5
      have hd : args.drop i = args[i] :: args.drop (i + 1) := (List.drop_eq_getElem_cons h5)
      have hm := List.getElem_mem h5
      have hg := exIs_get h5
      generalize args[i] = e at hd hm hg
      have hce := fun O ho => hch e hm O (d + 1) nm (IntKind.i64.wrap (lvl + 1)) c' ho hc0' hc1' (by omega) (by omega)
      have hcnt := fewR_cnt e (IntKind.i64.wrap (lvl + 1)) c' hc0' hc1'
      obtain ⟨eo, ev, ei, ea⟩ := e
      simp only [exI] at hg
      rw [hd] at hno
      simp only [fewRs] at hno
      rw [← hwl] at hno
      first | refine g_need TrydT_ok Tryd.func89 (by exact ⟨by omega, by show (i : Int) < (args.length : Int); omega⟩) ?_ | refine s_need TrydT_ok (by exact ⟨by omega, by show (i : Int) < (args.length : Int); omega⟩) ?_
      first | refine g_elem TrydT_ok Tryd.func89 (hg) ?_ | refine s_elem TrydT_ok (hg) ?_
      refine g_call TrydT_ok Tryd.func89 (hce _ (by exact up_obj (objAt_set_same ho))) rfl rfl rfl (shape_cons (shape_set (objAt_set_same ho) rfl)) rfl ?_
      generalize fewR (.mk eo ev ei ea) (IntKind.i64.wrap (lvl + 1)) c' = Q at hno hcnt
      obtain ⟨qe, qc⟩ := Q
      simp only at hno hcnt
      first | refine g_cnd TrydT_ok Tryd.func89 rfl (fun h6 => ?_) (fun h6 => ?_) | refine g_know TrydT_ok Tryd.func89 rfl (fun h6 => ?_) (fun h6 => ?_) | refine s_know TrydT_ok (fun h6 => ?_) (fun h6 => ?_)
      · have h6 := notT h6
        rw [if_pos h6] at hno
        subst hno
        refine g_rwk (wk_S (S' := _ :: setAt O d nm (.box [ii qc])) (objAt_cons fun d n => objAt_set2 d n)) ?_
        refine g_ret TrydT_ok (r := bb false) rfl rfl rfl trivial rfl rfl ?_
        rfl
      · have h6 := notF h6
        rw [if_neg (fun h => by rw [show qe = true from h6] at h; cases h), hwl] at hno
        refine g_wk (wk_S (S' := _ :: setAt O d nm (.box [ii qc])) (objAt_cons fun d n => objAt_set2 d n)) ?_
        refine g_loop ?_
        refine ih (i + 1, qc) _ _ ⟨h5, hcnt.1, hcnt.2, hno⟩ (by simp only; omega) ⟨rfl, rfl, rfl, congrArg ii (wsucc h5 hlen), trivial⟩ rfl ⟨rfl, trivial⟩ rfl rfl
    · have h5 : args.length ≤ i := by simpa using h5
      rw [List.drop_eq_nil_of_le h5] at hno
      subst hno
      refine g_ret TrydT_ok (r := bb true) rfl rfl rfl trivial rfl rfl ?_
      rfl
def smallX (x : Ex) : Bool := (fewR x 1 80).1
theorem small76 (O : List Heap) (x : Ex) (hok : exOk x) : ASpec Tryd.prog 76 [exD x] O (bb (smallX x)) [] O := by
  have hf := fun O ho => few89 _ x (Nat.lt_succ_self _) hok O 0 3 1 80 ho (by decide) (by decide) (by decide) (by decide)
  unfold smallX
  obtain ⟨op, v, ix, args⟩ := x
  refine aspec_intro TrydT_ok Tryd.func76 rfl Tryd.call76 Tryd.ntmps76 (Nat.le_of_ble_eq_true rfl) fun E => ?_
  refine g_run TrydT_ok Tryd.func76 ?_
  refine g_call TrydT_ok Tryd.func76 (hf _ rfl) rfl rfl rfl (shape_over (ob := .box [ii 80]) rfl rfl) rfl ?_
  refine g_ret TrydT_ok (r := bb _) rfl rfl rfl trivial rfl rfl ?_
  rfl
theorem small58 (O : List Heap) (x : Ex) (hok : exOk x) : ASpec Tryd.prog 58 [exD x] O (bb (smallX x)) [] O := by
  have hf := fun O => small76 O x hok
  generalize smallX x = R at *
  obtain ⟨op, v, ix, args⟩ := x
  refine aspec_intro TrydT_ok Tryd.func58 rfl Tryd.call58 Tryd.ntmps58 (Nat.le_of_ble_eq_true rfl) fun E => ?_
  refine g_run TrydT_ok Tryd.func58 ?_
  first | refine g_call TrydT_ok Tryd.func58 (hf _) rfl rfl rfl rfl rfl ?_ | refine s_callq TrydT_ok (fun _ => hf _) rfl rfl rfl ?_
  refine g_ret TrydT_ok (r := bb _) rfl rfl rfl trivial rfl rfl ?_
  rfl
theorem small58A (O : List Heap) (x : Ex) (hok : exOk x) : ASpec Tryd.prog 58 [exA x] O (bb (smallX x)) [] O := by rw [← exD_eq]; exact small58 O x hok
theorem typed77 (O : List Heap) (x : Ex) (n k : Int) (hok : exOk x) : ASpec Tryd.prog 77 [exD x, ii n, ii k] O (ii (typedX x n k)) [] O := by
  have hc := fun O => check67 O x n hok
  unfold typedX
  obtain ⟨op, v, ix, args⟩ := x
  generalize checkX (.mk op v ix args) n = R at *
  refine aspec_intro TrydT_ok Tryd.func77 rfl Tryd.call77 Tryd.ntmps77 (Nat.le_of_ble_eq_true rfl) fun E => ?_
  refine g_run TrydT_ok Tryd.func77 ?_
  first | refine g_call TrydT_ok Tryd.func77 (hc _) rfl rfl rfl rfl rfl ?_ | refine s_callq TrydT_ok (fun _ => hc _) rfl rfl rfl ?_
  first | refine g_cnd TrydT_ok Tryd.func77 rfl (fun h1 => ?_) (fun h1 => ?_) | refine g_know TrydT_ok Tryd.func77 rfl (fun h1 => ?_) (fun h1 => ?_) | refine s_know TrydT_ok (fun h1 => ?_) (fun h1 => ?_)
  · have h1 := beqT h1
    first | refine g_cnd TrydT_ok Tryd.func77 rfl (fun h2 => ?_) (fun h2 => ?_) | refine g_know TrydT_ok Tryd.func77 rfl (fun h2 => ?_) (fun h2 => ?_) | refine s_know TrydT_ok (fun h2 => ?_) (fun h2 => ?_)
    · have h2 := bneT h2
      rw [if_pos ⟨h1, h2⟩]
      refine g_ret TrydT_ok (r := ii 16) rfl rfl rfl trivial rfl rfl ?_
      rfl
    · have h2 := bneF h2
      rw [if_neg (by simp [h1, h2])]
      refine g_ret TrydT_ok (r := ii _) rfl rfl rfl trivial rfl rfl ?_
      rfl
  · have h1 := beqF h1
    rw [if_neg (by simp [h1])]
    repeat (first | refine g_cnd TrydT_ok Tryd.func77 rfl (fun _ => ?_) (fun h => absurd h (by decide)) | refine g_cnd TrydT_ok Tryd.func77 rfl (fun h => absurd h (by decide)) (fun _ => ?_) | refine g_know TrydT_ok Tryd.func77 rfl (fun _ => ?_) (fun h => absurd h (by decide)) | refine g_know TrydT_ok Tryd.func77 rfl (fun h => absurd h (by decide)) (fun _ => ?_) | refine s_know TrydT_ok (fun _ => ?_) (fun h => absurd h (by decide)) | refine s_know TrydT_ok (fun h => absurd h (by decide)) (fun _ => ?_))
    refine g_ret TrydT_ok (r := ii _) rfl rfl rfl trivial rfl rfl ?_
    rfl
theorem typed77A (O : List Heap) (x : Ex) (n k : Int) (hok : exOk x) : ASpec Tryd.prog 77 [exA x, ii n, ii k] O (ii (typedX x n k)) [] O := by rw [← exD_eq]; exact typed77 O x n k hok
end Go.AI

namespace Go.AI
open Go.Proofs
set_option maxRecDepth 20000
theorem move60 (O : List Heap) (m : Ext) (i : Nat) (hi : i < m.moves.length) (hok : extOk m) : ASpec Tryd.prog 60 [extD m, ii i] O (ii (mvErr m (prevL m.moves i) m.moves[i])) [] O := by
  have hx := hok.mv _ (List.getElem_mem hi)
  have hg : (m.moves.map mvI)[(i : Int).toNat]? = some (mvI m.moves[i]) := get_mapZ hi
  generalize hR : mvErr m (prevL m.moves i) m.moves[i] = R
  have hp0 : 0 < i → prevL m.moves i = some (m.moves[i - 1]'(by omega)) := fun h => prevL_pos h hi
  have hgp : ∀ h : 0 < i, (m.moves.map mvI)[(IntKind.i64.wrap ((i : Int) - 1)).toNat]? = some (mvI (m.moves[i - 1]'(by omega))) := fun h => by
    rw [wpred h hi hok.mo]
    exact get_mapZ (by omega)
  have hpn : i = 0 → prevL m.moves i = none := fun h => by unfold prevL; rw [if_pos h]
  generalize m.moves[i] = x at *
  obtain ⟨xf, xe, xt, xg, xu⟩ := x
  obtain ⟨hx1, hx2, hx3⟩ := hx
  simp only at hx1 hx2 hx3
  have hmo := hok.mo
  unfold mvErr at hR
  simp only at hR
  refine aspec_stop [8] TrydT_ok Tryd.func60 rfl Tryd.call60 Tryd.ntmps60 (Nat.le_of_ble_eq_true rfl) fun E => ?_
  refine g_run TrydT_ok Tryd.func60 ?_
  first | refine g_need TrydT_ok Tryd.func60 (by omega) ?_ | refine s_need TrydT_ok (by omega) ?_
  first | refine g_elem TrydT_ok Tryd.func60 (hg) ?_ | refine s_elem TrydT_ok (hg) ?_
  have bad : (xf < 0 ∨ xf ≥ m.locs ∨ xt < 0 ∨ xt ≥ m.locs) → R = 2 := fun h => by rw [← hR, if_pos h]
  first | refine g_cnd TrydT_ok Tryd.func60 rfl (fun h1 => ?_) (fun h1 => ?_) | refine g_know TrydT_ok Tryd.func60 rfl (fun h1 => ?_) (fun h1 => ?_) | refine s_know TrydT_ok (fun h1 => ?_) (fun h1 => ?_)
  · have := bad (.inl (of_decide_eq_true h1))
    subst this
    repeat (first | refine g_cnd TrydT_ok Tryd.func60 rfl (fun _ => ?_) (fun h => absurd h (by decide)) | refine g_cnd TrydT_ok Tryd.func60 rfl (fun h => absurd h (by decide)) (fun _ => ?_) | refine g_know TrydT_ok Tryd.func60 rfl (fun _ => ?_) (fun h => absurd h (by decide)) | refine g_know TrydT_ok Tryd.func60 rfl (fun h => absurd h (by decide)) (fun _ => ?_) | refine s_know TrydT_ok (fun _ => ?_) (fun h => absurd h (by decide)) | refine s_know TrydT_ok (fun h => absurd h (by decide)) (fun _ => ?_))
    refine g_ret TrydT_ok (r := ii 2) rfl rfl rfl trivial rfl rfl ?_
    rfl
  have h1 : ¬ xf < 0 := of_decide_eq_false h1
  first | refine g_cnd TrydT_ok Tryd.func60 rfl (fun h2 => ?_) (fun h2 => ?_) | refine g_know TrydT_ok Tryd.func60 rfl (fun h2 => ?_) (fun h2 => ?_) | refine s_know TrydT_ok (fun h2 => ?_) (fun h2 => ?_)
  · have := bad (.inr (.inl (of_decide_eq_true h2)))
    subst this
    repeat (first | refine g_cnd TrydT_ok Tryd.func60 rfl (fun _ => ?_) (fun h => absurd h (by decide)) | refine g_cnd TrydT_ok Tryd.func60 rfl (fun h => absurd h (by decide)) (fun _ => ?_) | refine g_know TrydT_ok Tryd.func60 rfl (fun _ => ?_) (fun h => absurd h (by decide)) | refine g_know TrydT_ok Tryd.func60 rfl (fun h => absurd h (by decide)) (fun _ => ?_) | refine s_know TrydT_ok (fun _ => ?_) (fun h => absurd h (by decide)) | refine s_know TrydT_ok (fun h => absurd h (by decide)) (fun _ => ?_))
    refine g_ret TrydT_ok (r := ii 2) rfl rfl rfl trivial rfl rfl ?_
    rfl
  have h2 : ¬ xf ≥ m.locs := of_decide_eq_false h2
  first | refine g_cnd TrydT_ok Tryd.func60 rfl (fun h3 => ?_) (fun h3 => ?_) | refine g_know TrydT_ok Tryd.func60 rfl (fun h3 => ?_) (fun h3 => ?_) | refine s_know TrydT_ok (fun h3 => ?_) (fun h3 => ?_)
  · have := bad (.inr (.inr (.inl (of_decide_eq_true h3))))
    subst this
    repeat (first | refine g_cnd TrydT_ok Tryd.func60 rfl (fun _ => ?_) (fun h => absurd h (by decide)) | refine g_cnd TrydT_ok Tryd.func60 rfl (fun h => absurd h (by decide)) (fun _ => ?_) | refine g_know TrydT_ok Tryd.func60 rfl (fun _ => ?_) (fun h => absurd h (by decide)) | refine g_know TrydT_ok Tryd.func60 rfl (fun h => absurd h (by decide)) (fun _ => ?_) | refine s_know TrydT_ok (fun _ => ?_) (fun h => absurd h (by decide)) | refine s_know TrydT_ok (fun h => absurd h (by decide)) (fun _ => ?_))
    refine g_ret TrydT_ok (r := ii 2) rfl rfl rfl trivial rfl rfl ?_
    rfl
  have h3 : ¬ xt < 0 := of_decide_eq_false h3
  first | refine g_cnd TrydT_ok Tryd.func60 rfl (fun h4 => ?_) (fun h4 => ?_) | refine g_know TrydT_ok Tryd.func60 rfl (fun h4 => ?_) (fun h4 => ?_) | refine s_know TrydT_ok (fun h4 => ?_) (fun h4 => ?_)
  · have := bad (.inr (.inr (.inr (of_decide_eq_true h4))))
    subst this
    refine g_ret TrydT_ok (r := ii 2) rfl rfl rfl trivial rfl rfl ?_
    rfl
  have h4 : ¬ xt ≥ m.locs := of_decide_eq_false h4
  have hP : ¬ (xf < 0 ∨ xf ≥ m.locs ∨ xt < 0 ∨ xt ≥ m.locs) := by omega
  clear bad
  rw [if_neg hP] at hR
  first | refine g_call TrydT_ok Tryd.func60 (has24 _ m.alpha xe hok.al) rfl rfl rfl rfl rfl ?_ | refine s_callq TrydT_ok (fun _ => has24 _ m.alpha xe hok.al) rfl rfl rfl ?_
  first | refine g_cnd TrydT_ok Tryd.func60 rfl (fun h1 => ?_) (fun h1 => ?_) | refine g_know TrydT_ok Tryd.func60 rfl (fun h1 => ?_) (fun h1 => ?_) | refine s_know TrydT_ok (fun h1 => ?_) (fun h1 => ?_)
  · have h1 : xe ∉ m.alpha := by simpa using h1
    rw [if_pos h1] at hR
    subst hR
    refine g_ret TrydT_ok (r := ii 9) rfl rfl rfl trivial rfl rfl ?_
    rfl
  have h1 : xe ∈ m.alpha := by simpa using h1
  rw [if_neg (by simpa using h1)] at hR
  apply join_p (P := R = if typedX xg m.vars.length 2 ≠ 0 then typedX xg m.vars.length 2 else updErr m.vars.length none xu) (s6 := { σ := [(2, .own 0 2 0 0), (5, .own 0 5 0 0)], S := [(5, .box [ii xf, ii xe, ii xt, ii xg.op, ii xg.vl, ii xg.ix, exs xg.args, upds xu]), (2, .box (extC m))] :: O, n := 141 })
  · intro J
    refine g_drawn TrydT_ok Tryd.func60 mixedT rfl ?_
    first | refine g_cnd TrydT_ok Tryd.func60 rfl (fun h2 => ?_) (fun h2 => ?_) | refine g_know TrydT_ok Tryd.func60 rfl (fun h2 => ?_) (fun h2 => ?_) | refine s_know TrydT_ok (fun h2 => ?_) (fun h2 => ?_)
    · have h2 : 0 < i := by have := of_decide_eq_true h2; omega
      have hgp := hgp h2
      have hp0 := hp0 h2
      have hw := wpred h2 hi hmo
      generalize m.moves[i - 1] = y at hgp hp0
      obtain ⟨yf, ye, yt, yg, yu⟩ := y
      rw [hp0] at hR
      simp only [Option.any_some] at hR
      first | refine g_need TrydT_ok Tryd.func60 (by rw [hw]; omega) ?_ | refine s_need TrydT_ok (by rw [hw]; omega) ?_
      first | refine g_elem TrydT_ok Tryd.func60 (hgp) ?_ | refine s_elem TrydT_ok (hgp) ?_
      first | refine g_cnd TrydT_ok Tryd.func60 rfl (fun h3 => ?_) (fun h3 => ?_) | refine g_know TrydT_ok Tryd.func60 rfl (fun h3 => ?_) (fun h3 => ?_) | refine s_know TrydT_ok (fun h3 => ?_) (fun h3 => ?_)
      · have h3 : xf < yf := of_decide_eq_true h3
        refine e_done TrydT_ok Tryd.func60 (by kernel_rfl) ?_
        repeat (first | refine g_cnd TrydT_ok Tryd.func60 rfl (fun _ => ?_) (fun h => absurd h (by decide)) | refine g_cnd TrydT_ok Tryd.func60 rfl (fun h => absurd h (by decide)) (fun _ => ?_) | refine g_know TrydT_ok Tryd.func60 rfl (fun _ => ?_) (fun h => absurd h (by decide)) | refine g_know TrydT_ok Tryd.func60 rfl (fun h => absurd h (by decide)) (fun _ => ?_) | refine s_know TrydT_ok (fun _ => ?_) (fun h => absurd h (by decide)) | refine s_know TrydT_ok (fun h => absurd h (by decide)) (fun _ => ?_))
        rw [if_pos (by simp [h3])] at hR
        subst hR
        refine g_ret TrydT_ok (r := ii 5) rfl rfl rfl trivial rfl rfl ?_
        rfl
      · have h3 : ¬ xf < yf := of_decide_eq_false h3
        first | refine g_need TrydT_ok Tryd.func60 (by rw [hw]; omega) ?_ | refine s_need TrydT_ok (by rw [hw]; omega) ?_
        first | refine g_elem TrydT_ok Tryd.func60 (hgp) ?_ | refine s_elem TrydT_ok (hgp) ?_
        first | refine g_cnd TrydT_ok Tryd.func60 rfl (fun h4 => ?_) (fun h4 => ?_) | refine g_know TrydT_ok Tryd.func60 rfl (fun h4 => ?_) (fun h4 => ?_) | refine s_know TrydT_ok (fun h4 => ?_) (fun h4 => ?_)
        · have h4 : yf = xf := beqT h4
          first | refine g_need TrydT_ok Tryd.func60 (by rw [hw]; omega) ?_ | refine s_need TrydT_ok (by rw [hw]; omega) ?_
          first | refine g_elem TrydT_ok Tryd.func60 (hgp) ?_ | refine s_elem TrydT_ok (hgp) ?_
          refine e_done TrydT_ok Tryd.func60 (by kernel_rfl) ?_
          first | refine g_cnd TrydT_ok Tryd.func60 rfl (fun h5 => ?_) (fun h5 => ?_) | refine g_know TrydT_ok Tryd.func60 rfl (fun h5 => ?_) (fun h5 => ?_) | refine s_know TrydT_ok (fun h5 => ?_) (fun h5 => ?_)
          · have h5 : xe < ye := of_decide_eq_true h5
            rw [if_pos (by simp [h4, h5])] at hR
            subst hR
            refine g_ret TrydT_ok (r := ii 5) rfl rfl rfl trivial rfl rfl ?_
            rfl
          · have h5 : ¬ xe < ye := of_decide_eq_false h5
            rw [if_neg (by simp; omega)] at hR
            refine g_stop ?_
            refine rch_meet (J hR.symm) ⟨rfl, rfl, trivial⟩ rfl ⟨rfl, rfl, trivial⟩ rfl rfl
        · have h4 : yf ≠ xf := beqF h4
          refine e_done TrydT_ok Tryd.func60 (by kernel_rfl) ?_
          repeat (first | refine g_cnd TrydT_ok Tryd.func60 rfl (fun _ => ?_) (fun h => absurd h (by decide)) | refine g_cnd TrydT_ok Tryd.func60 rfl (fun h => absurd h (by decide)) (fun _ => ?_) | refine g_know TrydT_ok Tryd.func60 rfl (fun _ => ?_) (fun h => absurd h (by decide)) | refine g_know TrydT_ok Tryd.func60 rfl (fun h => absurd h (by decide)) (fun _ => ?_) | refine s_know TrydT_ok (fun _ => ?_) (fun h => absurd h (by decide)) | refine s_know TrydT_ok (fun h => absurd h (by decide)) (fun _ => ?_))
          rw [if_neg (by simp; omega)] at hR
          refine g_stop ?_
          refine rch_meet (J hR.symm) ⟨rfl, rfl, trivial⟩ rfl ⟨rfl, rfl, trivial⟩ rfl rfl
    · have h2 : i = 0 := by have := of_decide_eq_false h2; omega
      refine e_done TrydT_ok Tryd.func60 (by kernel_rfl) ?_
      repeat (first | refine g_cnd TrydT_ok Tryd.func60 rfl (fun _ => ?_) (fun h => absurd h (by decide)) | refine g_cnd TrydT_ok Tryd.func60 rfl (fun h => absurd h (by decide)) (fun _ => ?_) | refine g_know TrydT_ok Tryd.func60 rfl (fun _ => ?_) (fun h => absurd h (by decide)) | refine g_know TrydT_ok Tryd.func60 rfl (fun h => absurd h (by decide)) (fun _ => ?_) | refine s_know TrydT_ok (fun _ => ?_) (fun h => absurd h (by decide)) | refine s_know TrydT_ok (fun h => absurd h (by decide)) (fun _ => ?_))
      rw [hpn h2] at hR
      rw [if_neg (by simp)] at hR
      refine g_stop ?_
      refine rch_meet (J hR.symm) ⟨rfl, rfl, trivial⟩ rfl ⟨rfl, rfl, trivial⟩ rfl rfl
  · intro hR
    refine g_run TrydT_ok Tryd.func60 ?_
    refine g_go TrydT_ok Tryd.func60 ?_
    first | refine g_call TrydT_ok Tryd.func60 (typed77A _ xg m.vars.length 2 hx1) rfl rfl rfl rfl rfl ?_ | refine s_callq TrydT_ok (fun _ => typed77A _ xg m.vars.length 2 hx1) rfl rfl rfl ?_
    first | refine g_cnd TrydT_ok Tryd.func60 rfl (fun h2 => ?_) (fun h2 => ?_) | refine g_know TrydT_ok Tryd.func60 rfl (fun h2 => ?_) (fun h2 => ?_) | refine s_know TrydT_ok (fun h2 => ?_) (fun h2 => ?_)
    · have h2 := bneT h2
      rw [if_pos h2] at hR
      subst hR
      refine g_ret TrydT_ok (r := ii _) rfl rfl rfl trivial rfl rfl ?_
      rfl
    have h2 := bneF h2
    rw [if_neg (by simpa using h2)] at hR
    refine g_loop ?_
    refine rch_loop2 (fun j : Nat => [(5, .own 0 5 0 0), (6, ii m.vars.length), (8, ii j)]) (fun _ => [(5, .box [ii xf, ii xe, ii xt, ii xg.op, ii xg.vl, ii xg.ix, exs xg.args, upds xu]), (2, .box (extC m))]) (fun _ => O) 141
      (fun j => j ≤ xu.length ∧ R = updErr m.vars.length ((prevL xu j).map (·.v)) (xu.drop j)) (fun j => xu.length - j) 0 ⟨Nat.zero_le _, hR⟩ ⟨rfl, rfl, rfl, trivial⟩ rfl ⟨rfl, rfl, trivial⟩ rfl rfl ?_
    rintro j ⟨hj, hno⟩ ih
    clear hR
    refine g_run TrydT_ok Tryd.func60 ?_
    first | refine g_cnd TrydT_ok Tryd.func60 rfl (fun h3 => ?_) (fun h3 => ?_) | refine g_know TrydT_ok Tryd.func60 rfl (fun h3 => ?_) (fun h3 => ?_) | refine s_know TrydT_ok (fun h3 => ?_) (fun h3 => ?_)
    · have h3 : j < xu.length := by simpa using h3
      have hd : xu.drop j = xu[j] :: xu.drop (j + 1) := List.drop_eq_getElem_cons h3
      have hm := List.getElem_mem h3
      have hgj : (xu.map updI)[(j : Int).toNat]? = some (updI xu[j]) := get_mapZ h3
      have hpj0 : 0 < j → prevL xu j = some (xu[j - 1]'(by omega)) := fun h => prevL_pos h h3
      have hgpj : ∀ h : 0 < j, (xu.map updI)[(IntKind.i64.wrap ((j : Int) - 1)).toNat]? = some (updI (xu[j - 1]'(by omega))) := fun h => by
        rw [wpred h h3 hx2]
        exact get_mapZ (by omega)
      have hpjn : j = 0 → prevL xu j = none := fun h => by unfold prevL; rw [if_pos h]
      have hpj1 : prevL xu (j + 1) = some xu[j] := by rw [prevL, if_neg (by omega)]; simp [h3]
      generalize xu[j] = u at *
      have hux := hx3 u hm
      obtain ⟨uv, ux⟩ := u
      simp only at hux
      rw [hd] at hno
      simp only [updErr] at hno
      first | refine g_need TrydT_ok Tryd.func60 (by exact ⟨by omega, by show (j : Int) < (xu.length : Int); omega⟩) ?_ | refine s_need TrydT_ok (by exact ⟨by omega, by show (j : Int) < (xu.length : Int); omega⟩) ?_
      first | refine g_elem TrydT_ok Tryd.func60 (hgj) ?_ | refine s_elem TrydT_ok (hgj) ?_
      first | refine g_cnd TrydT_ok Tryd.func60 rfl (fun h4 => ?_) (fun h4 => ?_) | refine g_know TrydT_ok Tryd.func60 rfl (fun h4 => ?_) (fun h4 => ?_) | refine s_know TrydT_ok (fun h4 => ?_) (fun h4 => ?_)
      · have h4 : uv < 0 := of_decide_eq_true h4
        rw [if_pos (.inl h4)] at hno
        subst hno
        repeat (first | refine g_cnd TrydT_ok Tryd.func60 rfl (fun _ => ?_) (fun h => absurd h (by decide)) | refine g_cnd TrydT_ok Tryd.func60 rfl (fun h => absurd h (by decide)) (fun _ => ?_) | refine g_know TrydT_ok Tryd.func60 rfl (fun _ => ?_) (fun h => absurd h (by decide)) | refine g_know TrydT_ok Tryd.func60 rfl (fun h => absurd h (by decide)) (fun _ => ?_) | refine s_know TrydT_ok (fun _ => ?_) (fun h => absurd h (by decide)) | refine s_know TrydT_ok (fun h => absurd h (by decide)) (fun _ => ?_))
        refine g_ret TrydT_ok (r := ii 2) rfl rfl rfl trivial rfl rfl ?_
        rfl
      have h4 : ¬ uv < 0 := of_decide_eq_false h4
      first | refine g_cnd TrydT_ok Tryd.func60 rfl (fun h5 => ?_) (fun h5 => ?_) | refine g_know TrydT_ok Tryd.func60 rfl (fun h5 => ?_) (fun h5 => ?_) | refine s_know TrydT_ok (fun h5 => ?_) (fun h5 => ?_)
      · have h5 : uv ≥ m.vars.length := of_decide_eq_true h5
        rw [if_pos (.inr h5)] at hno
        subst hno
        refine g_ret TrydT_ok (r := ii 2) rfl rfl rfl trivial rfl rfl ?_
        rfl
      have h5 : ¬ uv ≥ m.vars.length := of_decide_eq_false h5
      rw [if_neg (by omega)] at hno
      have hsaved := hgj
      have hfin : (R = if typedX ux m.vars.length 1 ≠ 0 then typedX ux m.vars.length 1 else updErr m.vars.length (some uv) (xu.drop (j + 1))) → True := fun _ => trivial
      refine g_drawn TrydT_ok Tryd.func60 mixedT rfl ?_
      first | refine g_cnd TrydT_ok Tryd.func60 rfl (fun h6 => ?_) (fun h6 => ?_) | refine g_know TrydT_ok Tryd.func60 rfl (fun h6 => ?_) (fun h6 => ?_) | refine s_know TrydT_ok (fun h6 => ?_) (fun h6 => ?_)
      · have h6 : 0 < j := by have := of_decide_eq_true h6; omega
        have hgpj := hgpj h6
        have hw := wpred h6 h3 hx2
        rw [hpj0 h6] at hno
        generalize xu[j - 1] = y at hgpj hno
        obtain ⟨yv, yx⟩ := y
        simp only [Option.map_some, Option.any_some] at hno
        first | refine g_need TrydT_ok Tryd.func60 (by exact ⟨by omega, by show (j : Int) < (xu.length : Int); omega⟩) ?_ | refine s_need TrydT_ok (by exact ⟨by omega, by show (j : Int) < (xu.length : Int); omega⟩) ?_
        first | refine g_elem TrydT_ok Tryd.func60 (hgj) ?_ | refine s_elem TrydT_ok (hgj) ?_
        first | refine g_need TrydT_ok Tryd.func60 (by rw [hw]; omega) ?_ | refine s_need TrydT_ok (by rw [hw]; omega) ?_
        first | refine g_elem TrydT_ok Tryd.func60 (hgpj) ?_ | refine s_elem TrydT_ok (hgpj) ?_
        refine e_done TrydT_ok Tryd.func60 (by kernel_rfl) ?_
        first | refine g_cnd TrydT_ok Tryd.func60 rfl (fun h7 => ?_) (fun h7 => ?_) | refine g_know TrydT_ok Tryd.func60 rfl (fun h7 => ?_) (fun h7 => ?_) | refine s_know TrydT_ok (fun h7 => ?_) (fun h7 => ?_)
        · have h7 : uv ≤ yv := of_decide_eq_true h7
          rw [if_pos (decide_eq_true h7)] at hno
          subst hno
          refine g_ret TrydT_ok (r := ii 5) rfl rfl rfl trivial rfl rfl ?_
          rfl
        · have h7 : ¬ uv ≤ yv := of_decide_eq_false h7
          rw [if_neg (by simpa using h7)] at hno
          first | refine g_need TrydT_ok Tryd.func60 (by exact ⟨by omega, by show (j : Int) < (xu.length : Int); omega⟩) ?_ | refine s_need TrydT_ok (by exact ⟨by omega, by show (j : Int) < (xu.length : Int); omega⟩) ?_
          first | refine g_elem TrydT_ok Tryd.func60 (hgj) ?_ | refine s_elem TrydT_ok (hgj) ?_
          first | refine g_call TrydT_ok Tryd.func60 (typed77A _ ux m.vars.length 1 hux) rfl rfl rfl rfl rfl ?_ | refine s_callq TrydT_ok (fun _ => typed77A _ ux m.vars.length 1 hux) rfl rfl rfl ?_
          first | refine g_cnd TrydT_ok Tryd.func60 rfl (fun h8 => ?_) (fun h8 => ?_) | refine g_know TrydT_ok Tryd.func60 rfl (fun h8 => ?_) (fun h8 => ?_) | refine s_know TrydT_ok (fun h8 => ?_) (fun h8 => ?_)
          · have h8 := bneT h8
            rw [if_pos h8] at hno
            subst hno
            refine g_ret TrydT_ok (r := ii _) rfl rfl rfl trivial rfl rfl ?_
            rfl
          have h8 := bneF h8
          rw [if_neg (by simpa using h8)] at hno
          refine g_loop ?_
          refine ih (j + 1) _ _ ⟨h3, by rw [hpj1]; exact hno⟩ (by omega) ⟨rfl, rfl, congrArg ii (wsucc h3 hx2), trivial⟩ rfl ⟨rfl, rfl, trivial⟩ rfl rfl
      · have h6 : j = 0 := by have := of_decide_eq_false h6; omega
        refine e_done TrydT_ok Tryd.func60 (by kernel_rfl) ?_
        repeat (first | refine g_cnd TrydT_ok Tryd.func60 rfl (fun _ => ?_) (fun h => absurd h (by decide)) | refine g_cnd TrydT_ok Tryd.func60 rfl (fun h => absurd h (by decide)) (fun _ => ?_) | refine g_know TrydT_ok Tryd.func60 rfl (fun _ => ?_) (fun h => absurd h (by decide)) | refine g_know TrydT_ok Tryd.func60 rfl (fun h => absurd h (by decide)) (fun _ => ?_) | refine s_know TrydT_ok (fun _ => ?_) (fun h => absurd h (by decide)) | refine s_know TrydT_ok (fun h => absurd h (by decide)) (fun _ => ?_))
        rw [hpjn h6] at hno
        simp only [Option.map_none, Option.any_none] at hno
        rw [if_neg (by simp)] at hno
        first | refine g_need TrydT_ok Tryd.func60 (by exact ⟨by omega, by show (j : Int) < (xu.length : Int); omega⟩) ?_ | refine s_need TrydT_ok (by exact ⟨by omega, by show (j : Int) < (xu.length : Int); omega⟩) ?_
        first | refine g_elem TrydT_ok Tryd.func60 (hgj) ?_ | refine s_elem TrydT_ok (hgj) ?_
        first | refine g_call TrydT_ok Tryd.func60 (typed77A _ ux m.vars.length 1 hux) rfl rfl rfl rfl rfl ?_ | refine s_callq TrydT_ok (fun _ => typed77A _ ux m.vars.length 1 hux) rfl rfl rfl ?_
        first | refine g_cnd TrydT_ok Tryd.func60 rfl (fun h8 => ?_) (fun h8 => ?_) | refine g_know TrydT_ok Tryd.func60 rfl (fun h8 => ?_) (fun h8 => ?_) | refine s_know TrydT_ok (fun h8 => ?_) (fun h8 => ?_)
        · have h8 := bneT h8
          rw [if_pos h8] at hno
          subst hno
          refine g_ret TrydT_ok (r := ii _) rfl rfl rfl trivial rfl rfl ?_
          rfl
        have h8 := bneF h8
        rw [if_neg (by simpa using h8)] at hno
        refine g_loop ?_
        refine ih (j + 1) _ _ ⟨h3, by rw [hpj1]; exact hno⟩ (by omega) ⟨rfl, rfl, congrArg ii (wsucc h3 hx2), trivial⟩ rfl ⟨rfl, rfl, trivial⟩ rfl rfl
    · have h3 : xu.length ≤ j := by simpa using h3
      rw [List.drop_eq_nil_of_le h3] at hno
      simp only [updErr] at hno
      subst hno
      refine g_ret TrydT_ok (r := ii 0) rfl rfl rfl trivial rfl rfl ?_
      rfl
theorem check39 (O : List Heap) (m : Ext) (hok : extOk m) : ASpec Tryd.prog 39 [extD m] O (ii (chk m)) [] O := by
  have hal := hok.al
  have hma := hok.ma
  have hmo := hok.mo
  generalize hR : chk m = R
  unfold chk at hR
  refine aspec_stop [] TrydT_ok Tryd.func39 rfl Tryd.call39 Tryd.ntmps39 (Nat.le_of_ble_eq_true rfl) fun E => ?_
  refine g_run TrydT_ok Tryd.func39 ?_
  first | refine g_call TrydT_ok Tryd.func39 (checkSet59 _ m.alpha 32 hal) rfl rfl rfl rfl rfl ?_ | refine s_callq TrydT_ok (fun _ => checkSet59 _ m.alpha 32 hal) rfl rfl rfl ?_
  first | refine g_cnd TrydT_ok Tryd.func39 rfl (fun h1 => ?_) (fun h1 => ?_) | refine g_know TrydT_ok Tryd.func39 rfl (fun h1 => ?_) (fun h1 => ?_) | refine s_know TrydT_ok (fun h1 => ?_) (fun h1 => ?_)
  · have h1 := bneT h1
    rw [if_pos h1] at hR
    subst hR
    refine g_ret TrydT_ok (r := ii _) rfl rfl rfl trivial rfl rfl ?_
    rfl
  have h1 := bneF h1
  rw [if_neg (by simpa using h1)] at hR
  have bad : (m.locs < 1 ∨ m.locs > 64 ∨ m.init < 0 ∨ m.init ≥ m.locs) → R = 2 := fun h => by rw [← hR, if_pos h]
  first | refine g_cnd TrydT_ok Tryd.func39 rfl (fun h2 => ?_) (fun h2 => ?_) | refine g_know TrydT_ok Tryd.func39 rfl (fun h2 => ?_) (fun h2 => ?_) | refine s_know TrydT_ok (fun h2 => ?_) (fun h2 => ?_)
  · have := bad (.inl (of_decide_eq_true h2))
    subst this
    repeat (first | refine g_cnd TrydT_ok Tryd.func39 rfl (fun _ => ?_) (fun h => absurd h (by decide)) | refine g_cnd TrydT_ok Tryd.func39 rfl (fun h => absurd h (by decide)) (fun _ => ?_) | refine g_know TrydT_ok Tryd.func39 rfl (fun _ => ?_) (fun h => absurd h (by decide)) | refine g_know TrydT_ok Tryd.func39 rfl (fun h => absurd h (by decide)) (fun _ => ?_) | refine s_know TrydT_ok (fun _ => ?_) (fun h => absurd h (by decide)) | refine s_know TrydT_ok (fun h => absurd h (by decide)) (fun _ => ?_))
    refine g_ret TrydT_ok (r := ii 2) rfl rfl rfl trivial rfl rfl ?_
    rfl
  have h2 : ¬ m.locs < 1 := of_decide_eq_false h2
  first | refine g_cnd TrydT_ok Tryd.func39 rfl (fun h3 => ?_) (fun h3 => ?_) | refine g_know TrydT_ok Tryd.func39 rfl (fun h3 => ?_) (fun h3 => ?_) | refine s_know TrydT_ok (fun h3 => ?_) (fun h3 => ?_)
  · have := bad (.inr (.inl (of_decide_eq_true h3)))
    subst this
    repeat (first | refine g_cnd TrydT_ok Tryd.func39 rfl (fun _ => ?_) (fun h => absurd h (by decide)) | refine g_cnd TrydT_ok Tryd.func39 rfl (fun h => absurd h (by decide)) (fun _ => ?_) | refine g_know TrydT_ok Tryd.func39 rfl (fun _ => ?_) (fun h => absurd h (by decide)) | refine g_know TrydT_ok Tryd.func39 rfl (fun h => absurd h (by decide)) (fun _ => ?_) | refine s_know TrydT_ok (fun _ => ?_) (fun h => absurd h (by decide)) | refine s_know TrydT_ok (fun h => absurd h (by decide)) (fun _ => ?_))
    refine g_ret TrydT_ok (r := ii 2) rfl rfl rfl trivial rfl rfl ?_
    rfl
  have h3 : ¬ m.locs > 64 := of_decide_eq_false h3
  first | refine g_cnd TrydT_ok Tryd.func39 rfl (fun h4 => ?_) (fun h4 => ?_) | refine g_know TrydT_ok Tryd.func39 rfl (fun h4 => ?_) (fun h4 => ?_) | refine s_know TrydT_ok (fun h4 => ?_) (fun h4 => ?_)
  · have := bad (.inr (.inr (.inl (of_decide_eq_true h4))))
    subst this
    repeat (first | refine g_cnd TrydT_ok Tryd.func39 rfl (fun _ => ?_) (fun h => absurd h (by decide)) | refine g_cnd TrydT_ok Tryd.func39 rfl (fun h => absurd h (by decide)) (fun _ => ?_) | refine g_know TrydT_ok Tryd.func39 rfl (fun _ => ?_) (fun h => absurd h (by decide)) | refine g_know TrydT_ok Tryd.func39 rfl (fun h => absurd h (by decide)) (fun _ => ?_) | refine s_know TrydT_ok (fun _ => ?_) (fun h => absurd h (by decide)) | refine s_know TrydT_ok (fun h => absurd h (by decide)) (fun _ => ?_))
    refine g_ret TrydT_ok (r := ii 2) rfl rfl rfl trivial rfl rfl ?_
    rfl
  have h4 : ¬ m.init < 0 := of_decide_eq_false h4
  first | refine g_cnd TrydT_ok Tryd.func39 rfl (fun h5 => ?_) (fun h5 => ?_) | refine g_know TrydT_ok Tryd.func39 rfl (fun h5 => ?_) (fun h5 => ?_) | refine s_know TrydT_ok (fun h5 => ?_) (fun h5 => ?_)
  · have := bad (.inr (.inr (.inr (of_decide_eq_true h5))))
    subst this
    refine g_ret TrydT_ok (r := ii 2) rfl rfl rfl trivial rfl rfl ?_
    rfl
  have h5 : ¬ m.init ≥ m.locs := of_decide_eq_false h5
  rw [if_neg (by omega)] at hR
  first | refine g_call TrydT_ok Tryd.func39 (checkSet59 _ m.marked m.locs hma) rfl rfl rfl rfl rfl ?_ | refine s_callq TrydT_ok (fun _ => checkSet59 _ m.marked m.locs hma) rfl rfl rfl ?_
  first | refine g_cnd TrydT_ok Tryd.func39 rfl (fun h6 => ?_) (fun h6 => ?_) | refine g_know TrydT_ok Tryd.func39 rfl (fun h6 => ?_) (fun h6 => ?_) | refine s_know TrydT_ok (fun h6 => ?_) (fun h6 => ?_)
  · have h6 := bneT h6
    rw [if_pos h6] at hR
    subst hR
    refine g_ret TrydT_ok (r := ii _) rfl rfl rfl trivial rfl rfl ?_
    rfl
  have h6 := bneF h6
  rw [if_neg (by simpa using h6)] at hR
  first | refine g_call TrydT_ok Tryd.func39 (checkVars56' _ m.vars hok.va hok.na) rfl rfl rfl rfl rfl ?_ | refine s_callq TrydT_ok (fun _ => checkVars56' _ m.vars hok.va hok.na) rfl rfl rfl ?_
  first | refine g_cnd TrydT_ok Tryd.func39 rfl (fun h7 => ?_) (fun h7 => ?_) | refine g_know TrydT_ok Tryd.func39 rfl (fun h7 => ?_) (fun h7 => ?_) | refine s_know TrydT_ok (fun h7 => ?_) (fun h7 => ?_)
  · have h7 := bneT h7
    rw [if_pos h7] at hR
    subst hR
    refine g_ret TrydT_ok (r := ii _) rfl rfl rfl trivial rfl rfl ?_
    rfl
  have h7 := bneF h7
  rw [if_neg (by simpa using h7)] at hR
  first | refine g_cnd TrydT_ok Tryd.func39 rfl (fun h8 => ?_) (fun h8 => ?_) | refine g_know TrydT_ok Tryd.func39 rfl (fun h8 => ?_) (fun h8 => ?_) | refine s_know TrydT_ok (fun h8 => ?_) (fun h8 => ?_)
  · have h8 : m.moves.length > 256 := by have := of_decide_eq_true h8; omega
    rw [if_pos h8] at hR
    subst hR
    refine g_ret TrydT_ok (r := ii _) rfl rfl rfl trivial rfl rfl ?_
    rfl
  have h8 : ¬ m.moves.length > 256 := by have := of_decide_eq_false h8; omega
  rw [if_neg h8] at hR
  refine g_loop ?_
  refine rch_loop2 (fun j : Nat => [(1, .own 0 1 0 0), (6, ii j)]) (fun _ => [(1, .box (extC m))]) (fun _ => O) 65
    (fun j => j ≤ m.moves.length ∧ R = mvsErr m (prevL m.moves j) (m.moves.drop j)) (fun j => m.moves.length - j) 0 ⟨Nat.zero_le _, hR.symm⟩ ⟨rfl, rfl, trivial⟩ rfl ⟨rfl, trivial⟩ rfl rfl ?_
  rintro j ⟨hj, hno⟩ ih
  clear hR bad
  refine g_run TrydT_ok Tryd.func39 ?_
  first | refine g_cnd TrydT_ok Tryd.func39 rfl (fun h9 => ?_) (fun h9 => ?_) | refine g_know TrydT_ok Tryd.func39 rfl (fun h9 => ?_) (fun h9 => ?_) | refine s_know TrydT_ok (fun h9 => ?_) (fun h9 => ?_)
  · have h9 : j < m.moves.length := by simpa using h9
    have hd : m.moves.drop j = m.moves[j] :: m.moves.drop (j + 1) := List.drop_eq_getElem_cons h9
    have hpj1 : prevL m.moves (j + 1) = some m.moves[j] := by rw [prevL, if_neg (by omega)]; simp [h9]
    rw [hd] at hno
    simp only [mvsErr] at hno
    first | refine g_call TrydT_ok Tryd.func39 (move60 _ m j h9 hok) rfl rfl rfl rfl rfl ?_ | refine s_callq TrydT_ok (fun _ => move60 _ m j h9 hok) rfl rfl rfl ?_
    first | refine g_cnd TrydT_ok Tryd.func39 rfl (fun h10 => ?_) (fun h10 => ?_) | refine g_know TrydT_ok Tryd.func39 rfl (fun h10 => ?_) (fun h10 => ?_) | refine s_know TrydT_ok (fun h10 => ?_) (fun h10 => ?_)
    · have h10 := bneT h10
      rw [if_pos h10] at hno
      subst hno
      refine g_ret TrydT_ok (r := ii _) rfl rfl rfl trivial rfl rfl ?_
      rfl
    have h10 := bneF h10
    rw [if_neg (by simpa using h10)] at hno
    refine g_loop ?_
    refine ih (j + 1) _ _ ⟨h9, by rw [hpj1]; exact hno⟩ (by omega) ⟨rfl, congrArg ii (wsucc h9 hmo), trivial⟩ rfl ⟨rfl, trivial⟩ rfl rfl
  · have h9 : m.moves.length ≤ j := by simpa using h9
    rw [List.drop_eq_nil_of_le h9] at hno
    simp only [mvsErr] at hno
    subst hno
    refine g_ret TrydT_ok (r := ii 0) rfl rfl rfl trivial rfl rfl ?_
    rfl
end Go.AI

namespace Go.AI
open Go.Proofs
set_option maxRecDepth 20000
def fnm (v : Vr) : Bool := !decide (v.name.size > 40)
def fmv (x : Mv) : Bool := smallX x.g && (!decide (x.us.length > 4) && x.us.all fun u => smallX u.x)
/-- Whether the argument of ExtendedChecks is small. -/
def fewM (m : Ext) : Bool := if m.alpha.length > 10 ∨ m.marked.length > 10 ∨ m.vars.length > 10 ∨ m.moves.length > 10 then false else m.vars.all fnm && m.moves.all fmv
theorem few38 (O : List Heap) (m : Ext) (hok : extOk m) : ASpec Tryd.prog 38 [extD m] O (bb (fewM m)) [] O := by
  have hva := hok.va
  have hmo := hok.mo
  generalize hR : fewM m = R
  unfold fewM at hR
  have bad : (m.alpha.length > 10 ∨ m.marked.length > 10 ∨ m.vars.length > 10 ∨ m.moves.length > 10) → R = false := fun h => by rw [← hR, if_pos h]
  have good : ¬ (m.alpha.length > 10 ∨ m.marked.length > 10 ∨ m.vars.length > 10 ∨ m.moves.length > 10) → R = (m.vars.all fnm && m.moves.all fmv) := fun h => by rw [← hR, if_neg h]
  clear hR
  refine aspec_stop [] TrydT_ok Tryd.func38 rfl Tryd.call38 Tryd.ntmps38 (Nat.le_of_ble_eq_true rfl) fun E => ?_
  refine g_run TrydT_ok Tryd.func38 ?_
  first | refine g_cnd TrydT_ok Tryd.func38 rfl (fun h1 => ?_) (fun h1 => ?_) | refine g_know TrydT_ok Tryd.func38 rfl (fun h1 => ?_) (fun h1 => ?_) | refine s_know TrydT_ok (fun h1 => ?_) (fun h1 => ?_)
  · have := bad (.inl (by have := of_decide_eq_true h1; omega))
    subst this
    repeat (first | refine g_cnd TrydT_ok Tryd.func38 rfl (fun _ => ?_) (fun h => absurd h (by decide)) | refine g_cnd TrydT_ok Tryd.func38 rfl (fun h => absurd h (by decide)) (fun _ => ?_) | refine g_know TrydT_ok Tryd.func38 rfl (fun _ => ?_) (fun h => absurd h (by decide)) | refine g_know TrydT_ok Tryd.func38 rfl (fun h => absurd h (by decide)) (fun _ => ?_) | refine s_know TrydT_ok (fun _ => ?_) (fun h => absurd h (by decide)) | refine s_know TrydT_ok (fun h => absurd h (by decide)) (fun _ => ?_))
    refine g_ret TrydT_ok (r := bb false) rfl rfl rfl trivial rfl rfl ?_
    rfl
  have h1 : ¬ m.alpha.length > 10 := by have := of_decide_eq_false h1; omega
  first | refine g_cnd TrydT_ok Tryd.func38 rfl (fun h2 => ?_) (fun h2 => ?_) | refine g_know TrydT_ok Tryd.func38 rfl (fun h2 => ?_) (fun h2 => ?_) | refine s_know TrydT_ok (fun h2 => ?_) (fun h2 => ?_)
  · have := bad (.inr (.inl (by have := of_decide_eq_true h2; omega)))
    subst this
    repeat (first | refine g_cnd TrydT_ok Tryd.func38 rfl (fun _ => ?_) (fun h => absurd h (by decide)) | refine g_cnd TrydT_ok Tryd.func38 rfl (fun h => absurd h (by decide)) (fun _ => ?_) | refine g_know TrydT_ok Tryd.func38 rfl (fun _ => ?_) (fun h => absurd h (by decide)) | refine g_know TrydT_ok Tryd.func38 rfl (fun h => absurd h (by decide)) (fun _ => ?_) | refine s_know TrydT_ok (fun _ => ?_) (fun h => absurd h (by decide)) | refine s_know TrydT_ok (fun h => absurd h (by decide)) (fun _ => ?_))
    refine g_ret TrydT_ok (r := bb false) rfl rfl rfl trivial rfl rfl ?_
    rfl
  have h2 : ¬ m.marked.length > 10 := by have := of_decide_eq_false h2; omega
  first | refine g_cnd TrydT_ok Tryd.func38 rfl (fun h3 => ?_) (fun h3 => ?_) | refine g_know TrydT_ok Tryd.func38 rfl (fun h3 => ?_) (fun h3 => ?_) | refine s_know TrydT_ok (fun h3 => ?_) (fun h3 => ?_)
  · have := bad (.inr (.inr (.inl (by have := of_decide_eq_true h3; omega))))
    subst this
    repeat (first | refine g_cnd TrydT_ok Tryd.func38 rfl (fun _ => ?_) (fun h => absurd h (by decide)) | refine g_cnd TrydT_ok Tryd.func38 rfl (fun h => absurd h (by decide)) (fun _ => ?_) | refine g_know TrydT_ok Tryd.func38 rfl (fun _ => ?_) (fun h => absurd h (by decide)) | refine g_know TrydT_ok Tryd.func38 rfl (fun h => absurd h (by decide)) (fun _ => ?_) | refine s_know TrydT_ok (fun _ => ?_) (fun h => absurd h (by decide)) | refine s_know TrydT_ok (fun h => absurd h (by decide)) (fun _ => ?_))
    refine g_ret TrydT_ok (r := bb false) rfl rfl rfl trivial rfl rfl ?_
    rfl
  have h3 : ¬ m.vars.length > 10 := by have := of_decide_eq_false h3; omega
  first | refine g_cnd TrydT_ok Tryd.func38 rfl (fun h4 => ?_) (fun h4 => ?_) | refine g_know TrydT_ok Tryd.func38 rfl (fun h4 => ?_) (fun h4 => ?_) | refine s_know TrydT_ok (fun h4 => ?_) (fun h4 => ?_)
  · have := bad (.inr (.inr (.inr (by have := of_decide_eq_true h4; omega))))
    subst this
    refine g_ret TrydT_ok (r := bb false) rfl rfl rfl trivial rfl rfl ?_
    rfl
  have h4 : ¬ m.moves.length > 10 := by have := of_decide_eq_false h4; omega
  have hR := good (by omega)
  clear good bad
  refine g_loop ?_
  refine rch_loop2 (fun i : Nat => [(1, .own 0 1 0 0), (3, ii i)]) (fun _ => [(1, .box (extC m))]) (fun _ => O) 91
    (fun i => i ≤ m.vars.length ∧ R = ((m.vars.drop i).all fnm && m.moves.all fmv)) (fun i => m.vars.length - i) 0 ⟨Nat.zero_le _, hR⟩ ⟨rfl, rfl, trivial⟩ rfl ⟨rfl, trivial⟩ rfl rfl ?_
  rintro i ⟨hi, hno⟩ ih
  clear hR
  refine g_run TrydT_ok Tryd.func38 ?_
  first | refine g_cnd TrydT_ok Tryd.func38 rfl (fun h5 => ?_) (fun h5 => ?_) | refine g_know TrydT_ok Tryd.func38 rfl (fun h5 => ?_) (fun h5 => ?_) | refine s_know TrydT_ok (fun h5 => ?_) (fun h5 => ?_)
  · have h5 : i < m.vars.length := by simpa using h5
    have hd : m.vars.drop i = m.vars[i] :: m.vars.drop (i + 1) := List.drop_eq_getElem_cons h5
    have hg : (m.vars.map vrI)[(i : Int).toNat]? = some (vrI m.vars[i]) := get_mapZ h5
    generalize m.vars[i] = v at *
    obtain ⟨vn, vl, vh, vi0⟩ := v
    rw [hd, List.all_cons] at hno
    first | refine g_need TrydT_ok Tryd.func38 (by exact ⟨by omega, by show (i : Int) < (m.vars.length : Int); omega⟩) ?_ | refine s_need TrydT_ok (by exact ⟨by omega, by show (i : Int) < (m.vars.length : Int); omega⟩) ?_
    first | refine g_elem TrydT_ok Tryd.func38 (hg) ?_ | refine s_elem TrydT_ok (hg) ?_
    first | refine g_cnd TrydT_ok Tryd.func38 rfl (fun h6 => ?_) (fun h6 => ?_) | refine g_know TrydT_ok Tryd.func38 rfl (fun h6 => ?_) (fun h6 => ?_) | refine s_know TrydT_ok (fun h6 => ?_) (fun h6 => ?_)
    · have e : fnm ⟨vn, vl, vh, vi0⟩ = false := by
        have h : (40 : Int) < (vn.size : Int) := of_decide_eq_true h6
        unfold fnm
        rw [decide_eq_true (show vn.size > 40 by omega)]
        rfl
      rw [e] at hno
      subst hno
      refine g_ret TrydT_ok (r := bb false) rfl rfl rfl trivial rfl rfl ?_
      rfl
    have e : fnm ⟨vn, vl, vh, vi0⟩ = true := by
      have h : ¬ (40 : Int) < (vn.size : Int) := of_decide_eq_false h6
      unfold fnm
      rw [decide_eq_false (show ¬ vn.size > 40 by omega)]
      rfl
    rw [e, Bool.true_and] at hno
    refine g_loop ?_
    refine ih (i + 1) _ _ ⟨h5, hno⟩ (by omega) ⟨rfl, congrArg ii (wsucc h5 hva), trivial⟩ rfl ⟨rfl, trivial⟩ rfl rfl
  have h5 : m.vars.length ≤ i := by simpa using h5
  clear ih
  rw [List.drop_eq_nil_of_le h5, List.all_nil, Bool.true_and] at hno
  refine g_loop ?_
  refine rch_loop2 (fun i : Nat => [(1, .own 0 1 0 0), (4, ii i)]) (fun _ => [(1, .box (extC m))]) (fun _ => O) 91
    (fun i => i ≤ m.moves.length ∧ R = (m.moves.drop i).all fmv) (fun i => m.moves.length - i) 0 ⟨Nat.zero_le _, hno⟩ ⟨rfl, rfl, trivial⟩ rfl ⟨rfl, trivial⟩ rfl rfl ?_
  clear hno hi h5
  rintro i ⟨hi, hno⟩ ih
  refine g_run TrydT_ok Tryd.func38 ?_
  first | refine g_cnd TrydT_ok Tryd.func38 rfl (fun h5 => ?_) (fun h5 => ?_) | refine g_know TrydT_ok Tryd.func38 rfl (fun h5 => ?_) (fun h5 => ?_) | refine s_know TrydT_ok (fun h5 => ?_) (fun h5 => ?_)
  · have h5 : i < m.moves.length := by simpa using h5
    have hd : m.moves.drop i = m.moves[i] :: m.moves.drop (i + 1) := List.drop_eq_getElem_cons h5
    have hg : (m.moves.map mvI)[(i : Int).toNat]? = some (mvI m.moves[i]) := get_mapZ h5
    obtain ⟨hx1, hx2, hx3⟩ := hok.mv _ (List.getElem_mem h5)
    generalize m.moves[i] = x at *
    obtain ⟨xf, xe, xt, xg, xu⟩ := x
    simp only at hx1 hx2 hx3
    rw [hd, List.all_cons] at hno
    simp only [fmv] at hno
    have hbi : 0 ≤ (i : Int) ∧ (i : Int) < (m.moves.length : Int) := by omega
    first | refine g_need TrydT_ok Tryd.func38 (by exact hbi) ?_ | refine s_need TrydT_ok (by exact hbi) ?_
    first | refine g_elem TrydT_ok Tryd.func38 (hg) ?_ | refine s_elem TrydT_ok (hg) ?_
    first | refine g_call TrydT_ok Tryd.func38 (small58A _ xg hx1) rfl rfl rfl rfl rfl ?_ | refine s_callq TrydT_ok (fun _ => small58A _ xg hx1) rfl rfl rfl ?_
    generalize smallX xg = B at *
    first | refine g_cnd TrydT_ok Tryd.func38 rfl (fun h6 => ?_) (fun h6 => ?_) | refine g_know TrydT_ok Tryd.func38 rfl (fun h6 => ?_) (fun h6 => ?_) | refine s_know TrydT_ok (fun h6 => ?_) (fun h6 => ?_)
    · have h6 := notT h6
      subst h6
      rw [Bool.false_and, Bool.false_and] at hno
      subst hno
      repeat (first | refine g_cnd TrydT_ok Tryd.func38 rfl (fun _ => ?_) (fun h => absurd h (by decide)) | refine g_cnd TrydT_ok Tryd.func38 rfl (fun h => absurd h (by decide)) (fun _ => ?_) | refine g_know TrydT_ok Tryd.func38 rfl (fun _ => ?_) (fun h => absurd h (by decide)) | refine g_know TrydT_ok Tryd.func38 rfl (fun h => absurd h (by decide)) (fun _ => ?_) | refine s_know TrydT_ok (fun _ => ?_) (fun h => absurd h (by decide)) | refine s_know TrydT_ok (fun h => absurd h (by decide)) (fun _ => ?_))
      refine g_ret TrydT_ok (r := bb false) rfl rfl rfl trivial rfl rfl ?_
      rfl
    have h6 := notF h6
    subst h6
    rw [Bool.true_and] at hno
    first | refine g_need TrydT_ok Tryd.func38 (by exact hbi) ?_ | refine s_need TrydT_ok (by exact hbi) ?_
    first | refine g_elem TrydT_ok Tryd.func38 (hg) ?_ | refine s_elem TrydT_ok (hg) ?_
    first | refine g_cnd TrydT_ok Tryd.func38 rfl (fun h7 => ?_) (fun h7 => ?_) | refine g_know TrydT_ok Tryd.func38 rfl (fun h7 => ?_) (fun h7 => ?_) | refine s_know TrydT_ok (fun h7 => ?_) (fun h7 => ?_)
    · rw [decide_eq_true (show xu.length > 4 by have h : (4 : Int) < (xu.length : Int) := of_decide_eq_true h7; omega), Bool.not_true, Bool.false_and, Bool.false_and] at hno
      subst hno
      refine g_ret TrydT_ok (r := bb false) rfl rfl rfl trivial rfl rfl ?_
      rfl
    rw [decide_eq_false (show ¬ xu.length > 4 by have h : ¬ (4 : Int) < (xu.length : Int) := of_decide_eq_false h7; omega), Bool.not_false, Bool.true_and] at hno
    refine g_loop ?_
    refine rch_loop2 (fun j : Nat => [(1, .own 0 1 0 0), (4, ii i), (5, ii j)]) (fun _ => [(1, .box (extC m))]) (fun _ => O) 91
      (fun j => j ≤ xu.length ∧ R = ((xu.drop j).all (fun u => smallX u.x) && (m.moves.drop (i + 1)).all fmv)) (fun j => xu.length - j) 0 ⟨Nat.zero_le _, hno⟩ ⟨rfl, rfl, rfl, trivial⟩ rfl ⟨rfl, trivial⟩ rfl rfl ?_
    clear hno
    rintro j ⟨hj, hno⟩ ih2
    refine g_run TrydT_ok Tryd.func38 ?_
    first | refine g_need TrydT_ok Tryd.func38 (by exact hbi) ?_ | refine s_need TrydT_ok (by exact hbi) ?_
    first | refine g_elem TrydT_ok Tryd.func38 (hg) ?_ | refine s_elem TrydT_ok (hg) ?_
    first | refine g_cnd TrydT_ok Tryd.func38 rfl (fun h8 => ?_) (fun h8 => ?_) | refine g_know TrydT_ok Tryd.func38 rfl (fun h8 => ?_) (fun h8 => ?_) | refine s_know TrydT_ok (fun h8 => ?_) (fun h8 => ?_)
    · have h8 : j < xu.length := by simpa using h8
      have hdj : xu.drop j = xu[j] :: xu.drop (j + 1) := List.drop_eq_getElem_cons h8
      have hgj : (xu.map updI)[(j : Int).toNat]? = some (updI xu[j]) := get_mapZ h8
      have hux := hx3 _ (List.getElem_mem h8)
      generalize xu[j] = u at *
      obtain ⟨uv, ux⟩ := u
      simp only at hux
      rw [hdj, List.all_cons] at hno
      simp only at hno
      first | refine g_need TrydT_ok Tryd.func38 (by exact hbi) ?_ | refine s_need TrydT_ok (by exact hbi) ?_
      first | refine g_elem TrydT_ok Tryd.func38 (hg) ?_ | refine s_elem TrydT_ok (hg) ?_
      first | refine g_need TrydT_ok Tryd.func38 (by exact ⟨by omega, by show (j : Int) < (xu.length : Int); omega⟩) ?_ | refine s_need TrydT_ok (by exact ⟨by omega, by show (j : Int) < (xu.length : Int); omega⟩) ?_
      first | refine g_elem TrydT_ok Tryd.func38 (hgj) ?_ | refine s_elem TrydT_ok (hgj) ?_
      first | refine g_call TrydT_ok Tryd.func38 (small58A _ ux hux) rfl rfl rfl rfl rfl ?_ | refine s_callq TrydT_ok (fun _ => small58A _ ux hux) rfl rfl rfl ?_
      generalize smallX ux = B at *
      first | refine g_cnd TrydT_ok Tryd.func38 rfl (fun h9 => ?_) (fun h9 => ?_) | refine g_know TrydT_ok Tryd.func38 rfl (fun h9 => ?_) (fun h9 => ?_) | refine s_know TrydT_ok (fun h9 => ?_) (fun h9 => ?_)
      · have h9 := notT h9
        subst h9
        rw [Bool.false_and, Bool.false_and] at hno
        subst hno
        refine g_ret TrydT_ok (r := bb false) rfl rfl rfl trivial rfl rfl ?_
        rfl
      have h9 := notF h9
      subst h9
      rw [Bool.true_and] at hno
      refine g_loop ?_
      refine ih2 (j + 1) _ _ ⟨h8, hno⟩ (by omega) ⟨rfl, rfl, congrArg ii (wsucc h8 hx2), trivial⟩ rfl ⟨rfl, trivial⟩ rfl rfl
    · have h8 : xu.length ≤ j := by simpa using h8
      rw [List.drop_eq_nil_of_le h8, List.all_nil, Bool.true_and] at hno
      clear ih2
      refine g_loop ?_
      refine ih (i + 1) _ _ ⟨h5, hno⟩ (by omega) ⟨rfl, congrArg ii (wsucc h5 hmo), trivial⟩ rfl ⟨rfl, trivial⟩ rfl rfl
  · have h5 : m.moves.length ≤ i := by simpa using h5
    rw [List.drop_eq_nil_of_le h5, List.all_nil] at hno
    subst hno
    refine g_ret TrydT_ok (r := bb true) rfl rfl rfl trivial rfl rfl ?_
    rfl
theorem unused34e (O : List Heap) (m : Ext) (hok : extOk m) (h : chk m ≠ 0) : ASpec Tryd.prog 34 [extD m] O (.tup [ints [], ii (chk m)]) [] O := by
  have hck := fun O => check40 O m hok
  generalize chk m = c at *
  refine aspec_intro TrydT_ok Tryd.func34 rfl Tryd.call34 Tryd.ntmps34 (Nat.le_of_ble_eq_true rfl) fun E => ?_
  refine g_run TrydT_ok Tryd.func34 ?_
  first | refine g_call TrydT_ok Tryd.func34 (hck _) rfl rfl rfl rfl rfl ?_ | refine s_callq TrydT_ok (fun _ => hck _) rfl rfl rfl ?_
  first | refine g_cnd TrydT_ok Tryd.func34 rfl (fun h1 => ?_) (fun h1 => ?_) | refine g_know TrydT_ok Tryd.func34 rfl (fun h1 => ?_) (fun h1 => ?_) | refine s_know TrydT_ok (fun h1 => ?_) (fun h1 => ?_)
  · refine g_ret_co TrydT_ok (r := _) rfl rfl rfl trivial rfl rfl ?_
    exact coD_tup (.cons (coD_i coI_nil) (CoDL.refl _))
  · exact absurd (bneF h1) h
theorem overlap33e (O : List Heap) (m : Ext) (i k : Int) (hok : extOk m) (h : chk m ≠ 0) : ASpec Tryd.prog 33 [extD m, ii i, ii k] O (.tup [ints [], bb false, ii (chk m)]) [] O := by
  have hck := fun O => check40 O m hok
  generalize chk m = c at *
  refine aspec_intro TrydT_ok Tryd.func33 rfl Tryd.call33 Tryd.ntmps33 (Nat.le_of_ble_eq_true rfl) fun E => ?_
  refine g_run TrydT_ok Tryd.func33 ?_
  first | refine g_call TrydT_ok Tryd.func33 (hck _) rfl rfl rfl rfl rfl ?_ | refine s_callq TrydT_ok (fun _ => hck _) rfl rfl rfl ?_
  first | refine g_cnd TrydT_ok Tryd.func33 rfl (fun h1 => ?_) (fun h1 => ?_) | refine g_know TrydT_ok Tryd.func33 rfl (fun h1 => ?_) (fun h1 => ?_) | refine s_know TrydT_ok (fun h1 => ?_) (fun h1 => ?_)
  · refine g_ret_co TrydT_ok (r := _) rfl rfl rfl trivial rfl rfl ?_
    exact coNo
  · exact absurd (bneF h1) h
end Go.AI
