/- The layer of abstract runs, part 17. -/
import Derived.Test.YtbknncolmohdlaaDoorLayerP
set_option linter.unusedSimpArgs false
set_option linter.unusedVariables false
set_option linter.all false
namespace Go.AI
open Go.Proofs
set_option maxRecDepth 20000
theorem overflows37 (O : List Heap) (m : Ext) (i : Nat) (hi : i < m.moves.length) (hm : made m) : ASpec Tryd.prog 37 [extD m, ii i] O (bb (ovfB (allV m.vars) m.moves[i].g)) [] O := by
  have hok := made_ok hm
  have hall := fun O => all35 O m.vars hm.vl hm.v hm.ve
  have hvals := @allV_vals m.vars
  have hal := allV_len hm.vl hm.v
  have hvl := hm.vl
  have hml := hm.ml
  have hg : (m.moves.map mvI)[(i : Int).toNat]? = some (mvI m.moves[i]) := get_mapZ hi
  have hgd := hm.mv _ (List.getElem_mem hi)
  generalize m.moves[i] = x at *
  have hR : ovfB (allV m.vars) x.g = (allV m.vars).any fun v => decide ((evalX x.g v).2 ≠ 0) := rfl
  generalize ovfB (allV m.vars) x.g = R at *
  generalize allV m.vars = A at *
  have hbi : 0 ≤ (i : Int) ∧ (i : Int) < (m.moves.length : Int) := by omega
  refine aspec_intro TrydT_ok Tryd.func37 rfl Tryd.call37 Tryd.ntmps37 (Nat.le_of_ble_eq_true rfl) fun E => ?_
  refine g_run TrydT_ok Tryd.func37 ?_
  first | refine g_call TrydT_ok Tryd.func37 (hall _) rfl rfl rfl rfl rfl ?_ | refine s_callq TrydT_ok (fun _ => hall _) rfl rfl rfl ?_
  refine g_loop ?_
  refine rch_loop2 (fun n : Nat => [(1, ii i), (2, .own 0 2 0 0), (5, intss A), (6, ii 0), (7, ii n)]) (fun _ => [(2, .box (extC m))]) (fun _ => O) 40
    (fun n => n ≤ A.length ∧ R = (A.drop n).any fun v => decide ((evalX x.g v).2 ≠ 0)) (fun n => A.length - n) 0 ⟨Nat.zero_le _, hR⟩ ⟨rfl, rfl, rfl, rfl, rfl, trivial⟩ rfl ⟨rfl, trivial⟩ rfl rfl ?_
  rintro n ⟨hn, hno⟩ ih
  clear hR
  refine g_run TrydT_ok Tryd.func37 ?_
  first | refine g_cnd TrydT_ok Tryd.func37 rfl (fun g1 => ?_) (fun g1 => ?_) | refine g_know TrydT_ok Tryd.func37 rfl (fun g1 => ?_) (fun g1 => ?_) | refine s_know TrydT_ok (fun g1 => ?_) (fun g1 => ?_)
  · have h1 : n < A.length := by simpa using g1
    clear g1
    have hd : A.drop n = A[n] :: A.drop (n + 1) := List.drop_eq_getElem_cons h1
    have hgA : (A.map fun x => [intsI x])[(n : Int).toNat]? = some [intsI A[n]] := get_mapZ (f := fun x => [intsI x]) h1
    have hvl2 := hvals _ (List.getElem_mem h1)
    generalize A[n] = v at *
    rw [hd, List.any_cons] at hno
    have he := fun O => evaluate51A O x.g v hgd.gok (by simp only [max63]; omega)
    generalize evalX x.g v = V at *
    obtain ⟨w, we⟩ := V
    simp only at hno he
    have hbn : 0 ≤ (n : Int) ∧ (n : Int) < (A.length : Int) := by omega
    refine g_drawn TrydT_ok Tryd.func37 mixedT rfl ?_
    first | refine g_need TrydT_ok Tryd.func37 (by exact hbi) ?_ | refine s_need TrydT_ok (by exact hbi) ?_
    first | refine g_elem TrydT_ok Tryd.func37 (hg) ?_ | refine s_elem TrydT_ok (hg) ?_
    first | refine g_need TrydT_ok Tryd.func37 (by exact hbn) ?_ | refine s_need TrydT_ok (by exact hbn) ?_
    first | refine g_elem TrydT_ok Tryd.func37 (hgA) ?_ | refine s_elem TrydT_ok (hgA) ?_
    first | refine g_call TrydT_ok Tryd.func37 (he _) rfl rfl rfl rfl rfl ?_ | refine s_callq TrydT_ok (fun _ => he _) rfl rfl rfl ?_
    refine e_done TrydT_ok Tryd.func37 (by kernel_rfl) ?_
    first | refine g_cnd TrydT_ok Tryd.func37 rfl (fun h2 => ?_) (fun h2 => ?_) | refine g_know TrydT_ok Tryd.func37 rfl (fun h2 => ?_) (fun h2 => ?_) | refine s_know TrydT_ok (fun h2 => ?_) (fun h2 => ?_)
    · have h2 := bneT h2
      rw [decide_eq_true h2, Bool.true_or] at hno
      subst hno
      refine g_ret TrydT_ok (r := bb true) rfl rfl rfl trivial rfl rfl ?_
      rfl
    · have h2 := bneF h2
      rw [decide_eq_false (by simpa using h2), Bool.false_or] at hno
      refine g_loop ?_
      exact ih (n + 1) _ _ ⟨h1, hno⟩ (by omega) ⟨rfl, rfl, rfl, rfl, congrArg ii (wsucc (n := 16) (by omega) (by decide)), trivial⟩ rfl ⟨rfl, trivial⟩ rfl rfl
  · have h1 : A.length ≤ n := by simpa using g1
    rw [List.drop_eq_nil_of_le h1, List.any_nil] at hno
    subst hno
    refine g_ret TrydT_ok (r := bb false) rfl rfl rfl trivial rfl rfl ?_
    rfl
abbrev omvs (l : List Mv) : Ob := .arr 38 8 l.length (l.map mvI) true
theorem omvs_app (l : List Mv) (x : Mv) : Ob.arr 38 8 (l.length + 1) (l.map mvI ++ [mvI x]) true = omvs (l ++ [x]) := by simp
set_option maxHeartbeats 4000000 in
theorem leaves9 {g : Nat} (hg : IsTab g) {ty : TypeId} {fr : Nat × Nat} (O : List Heap) (k : Sk) (hk : skOk k) : ASpecT g (ptab ty fr) Tryd.prog 9 [skD k] O (bb true) [] O := by
  have hkn := fun O => known11 hg (ty := ty) (fr := fr) O
  have hmk := fun O => make16 O k hk
  have hm := make_made hk
  generalize makeR k = m at *
  have hok := made_ok hm
  have hr := made_right hm
  have hml := hm.ml
  obtain ⟨F, hF, h5, h6, -⟩ := made_search6 hm
  have h14 := fun O => reach14 hg (ty := ty) (fr := fr) O m hok
  rw [made_reach hm hF] at h14
  have h15 := fun O => fault15 hg (ty := ty) (fr := fr) O m hok
  rw [made_fault hm hF] at h15
  have hlen := few_states hm h5.ok h5.nd
  have hnc := no_choice h5 h6
  have hul : (unusedR m).length ≤ m.moves.length := unL_len _ _ _
  have hum : ∀ x ∈ unusedR m, ∃ i, ∃ h : i < m.moves.length, x = (i : Int) := fun x hx => by
    unfold unusedR at hx
    rw [mem_unL] at hx
    obtain ⟨i, h1, h2, _⟩ := hx
    exact ⟨i, h1, by omega⟩
  have hkpu := kp_unused m
  have hls := @leaves_same m hm
  have hlm := made_less hm fun x => (allV m.vars).any (holdsB x.g)
  have h34 := fun O => unused34 O m hm
  have h33 := fun O i j => overlap33 O m i j hm
  have h37 := fun O i h => overflows37 O m i h hm
  have hss := fun O => sameStates18 O F.sts F.sts (by simp only [max63]; omega) (fun s hs => okS_len hr (h5.ok s hs))
  have hwe := fun O => wordEqual19 O (badOf F) (badOf F) (badOf_len F)
  have hb0 : F.kind = 0 → badOf F = [] := fun h => by unfold badOf; rw [if_pos h]
  have hb1 : F.kind ≠ 0 → badOf F ≠ [] := fun h => (fault_runs hm h5 h6 h).1
  have hbl := badOf_len F
  generalize hL : lessM m (fun x => (allV m.vars).any (holdsB x.g)) = L at *
  have hL2 : extC L = [ints m.alpha, ii m.locs, ii m.init, ints m.marked, vrs m.vars, mvs L.moves] := by rw [← hL]; rfl
  have h14L := fun (h : searchR L = searchR m) O => reach14 hg (ty := ty) (fr := fr) O L (made_ok hlm)
  have h15L := fun (h : searchR L = searchR m) O => fault15 hg (ty := ty) (fr := fr) O L (made_ok hlm)
  have hrL := fun (h : searchR L = searchR m) => made_reach hlm (h.trans hF)
  have hfL := fun (h : searchR L = searchR m) => made_fault hlm (h.trans hF)
  simp only at h14 h15
  clear h5 h6 hL
  generalize unusedR m = u at *
  generalize badOf F = B at *
  generalize F.sts = ST at *
  generalize F.kind = K at *
  generalize searchR m = SR at *
  refine aspecT_stop [14, 23, 27, 33] TrydT_ok Tryd.func9 rfl Tryd.call9 Tryd.ntmps9 (Nat.le_of_ble_eq_true rfl) fun E hE => ?_
  refine g_run TrydT_ok Tryd.func9 ?_
  refine g_callT TrydT_ok Tryd.func9 hE (hkn _) rfl rfl rfl rfl rfl rfl ?_
  repeat (first | refine g_cnd TrydT_ok Tryd.func9 rfl (fun _ => ?_) (fun h => absurd h (by decide)) | refine g_cnd TrydT_ok Tryd.func9 rfl (fun h => absurd h (by decide)) (fun _ => ?_) | refine g_know TrydT_ok Tryd.func9 rfl (fun _ => ?_) (fun h => absurd h (by decide)) | refine g_know TrydT_ok Tryd.func9 rfl (fun h => absurd h (by decide)) (fun _ => ?_) | refine s_know TrydT_ok (fun _ => ?_) (fun h => absurd h (by decide)) | refine s_know TrydT_ok (fun h => absurd h (by decide)) (fun _ => ?_))
  first | refine g_call TrydT_ok Tryd.func9 (hmk _) rfl rfl rfl rfl rfl ?_ | refine s_callq TrydT_ok (fun _ => hmk _) rfl rfl rfl ?_
  first | refine g_call TrydT_ok Tryd.func9 (h34 _) rfl rfl rfl rfl rfl ?_ | refine s_callq TrydT_ok (fun _ => h34 _) rfl rfl rfl ?_
  repeat (first | refine g_cnd TrydT_ok Tryd.func9 rfl (fun _ => ?_) (fun h => absurd h (by decide)) | refine g_cnd TrydT_ok Tryd.func9 rfl (fun h => absurd h (by decide)) (fun _ => ?_) | refine g_know TrydT_ok Tryd.func9 rfl (fun _ => ?_) (fun h => absurd h (by decide)) | refine g_know TrydT_ok Tryd.func9 rfl (fun h => absurd h (by decide)) (fun _ => ?_) | refine s_know TrydT_ok (fun _ => ?_) (fun h => absurd h (by decide)) | refine s_know TrydT_ok (fun h => absurd h (by decide)) (fun _ => ?_))
  refine g_loop ?_
  refine rch_wk (wk_nilbox2 6 60 38 8 (pre := [ints m.alpha, ii m.locs, ii m.init, ints m.marked, vrs m.vars]) (post := []) rfl rfl rfl) ?_
  refine rch_loop2 (fun x : Nat × List Mv => [(3, .own 0 3 0 0), (4, ints u), (6, .own 0 6 0 0), (7, ii x.1)]) (fun x => [(3, .box (extC m)), (6, .box [ints m.alpha, ii m.locs, ii m.init, ints m.marked, vrs m.vars, .osl 0 60]), (60, omvs x.2)]) (fun _ => O) 182
    (fun x => x.1 ≤ m.moves.length ∧ x.2.length ≤ x.1 ∧ kp u m.moves 0 = x.2 ++ kp u (m.moves.drop x.1) x.1) (fun x => m.moves.length - x.1) (0, []) ⟨Nat.zero_le _, Nat.le_refl _, rfl⟩ ⟨rfl, rfl, rfl, rfl, trivial⟩ rfl ⟨rfl, rfl, rfl, trivial⟩ rfl rfl ?_
  rintro ⟨i, acc⟩ ⟨hi, hal, hno⟩ ih
  simp only at hi hal hno
  refine g_run TrydT_ok Tryd.func9 ?_
  first | refine g_cnd TrydT_ok Tryd.func9 rfl (fun g1 => ?_) (fun g1 => ?_) | refine g_know TrydT_ok Tryd.func9 rfl (fun g1 => ?_) (fun g1 => ?_) | refine s_know TrydT_ok (fun g1 => ?_) (fun g1 => ?_)
  · have h1 : i < m.moves.length := by simpa using g1
    clear g1
    have hd : m.moves.drop i = m.moves[i] :: m.moves.drop (i + 1) := List.drop_eq_getElem_cons h1
    have hgi : (m.moves.map mvI)[(i : Int).toNat]? = some (mvI m.moves[i]) := get_mapZ h1
    generalize m.moves[i] = x at *
    rw [hd] at hno
    simp only [kp] at hno
    have hbi : 0 ≤ (i : Int) ∧ (i : Int) < (m.moves.length : Int) := by omega
    first | refine g_call TrydT_ok Tryd.func9 (has24 _ u (i : Int) (by simp only [max63]; omega)) rfl rfl rfl rfl rfl ?_ | refine s_callq TrydT_ok (fun _ => has24 _ u (i : Int) (by simp only [max63]; omega)) rfl rfl rfl ?_
    first | refine g_cnd TrydT_ok Tryd.func9 rfl (fun h2 => ?_) (fun h2 => ?_) | refine g_know TrydT_ok Tryd.func9 rfl (fun h2 => ?_) (fun h2 => ?_) | refine s_know TrydT_ok (fun h2 => ?_) (fun h2 => ?_)
    · have h2 : ¬ (i : Int) ∈ u := by simpa using h2
      rw [if_neg h2] at hno
      refine g_drawn TrydT_ok Tryd.func9 mixedT rfl ?_
      first | refine g_need TrydT_ok Tryd.func9 (by exact hbi) ?_ | refine s_need TrydT_ok (by exact hbi) ?_
      first | refine g_elem TrydT_ok Tryd.func9 (hgi) ?_ | refine s_elem TrydT_ok (hgi) ?_
      refine e_tail TrydT_ok Tryd.func9 ([8, 9, 10]) (by kernel_rfl) (by kernel_rfl) ?_
      first | refine g_need TrydT_ok Tryd.func9 (by exact ⟨by show (acc.length + 1) * 96 ≤ 140737488355328; omega, by show acc.length + 1 ≤ 9223372036854775807; omega⟩) ?_ | refine s_need TrydT_ok (by exact ⟨by show (acc.length + 1) * 96 ≤ 140737488355328; omega, by show acc.length + 1 ≤ 9223372036854775807; omega⟩) ?_
      refine g_loop ?_
      refine ih (i + 1, acc ++ [x]) _ _ ⟨h1, by simp only [List.length_append, List.length_singleton]; omega, by rw [hno]; simp⟩ (by simp only; omega) ⟨rfl, rfl, rfl, congrArg ii (wsucc (n := 8) (by omega) (by decide)), trivial⟩ rfl ⟨rfl, rfl, congrArg some (omvs_app acc x), trivial⟩ rfl rfl
    · have h2 : (i : Int) ∈ u := by simpa using h2
      rw [if_pos h2] at hno
      refine g_loop ?_
      exact ih (i + 1, acc) _ _ ⟨h1, by simp only; omega, hno⟩ (by simp only; omega) ⟨rfl, rfl, rfl, congrArg ii (wsucc (n := 8) (by omega) (by decide)), trivial⟩ rfl ⟨rfl, rfl, rfl, trivial⟩ rfl rfl
  have h1 : m.moves.length ≤ i := by simpa using g1
  clear g1 ih
  rw [List.drop_eq_nil_of_le h1] at hno
  simp only [kp, List.append_nil] at hno
  rw [hkpu] at hno
  subst hno
  refine g_stop ?_
  refine rch_wk (wk_freeze 60 rfl rfl) ?_
  refine rch_wk (wk_imm rfl) ?_
  refine rch_meet (l := [(3, .own 0 3 0 0), (4, ints u), (6, .own 0 6 0 0)]) (Hv := [(3, .box (extC m)), (6, .box (extC L))]) (n := 182) ?_ ⟨rfl, rfl, rfl, trivial⟩ rfl ⟨rfl, by rw [hL2]; rfl, trivial⟩ rfl rfl
  clear h34 hkpu hL2 hmk hkn h1 hi hal
  refine g_run TrydT_ok Tryd.func9 ?_
  refine g_go TrydT_ok Tryd.func9 ?_
  refine g_loop ?_
  refine rch_loop2 (fun x : Nat × Bool => [(3, .own 0 3 0 0), (4, ints u), (6, .own 0 6 0 0), (8, bb x.2), (9, ii x.1)]) (fun _ => [(3, .box (extC m)), (6, .box (extC L))]) (fun _ => O) 182
    (fun x => x.1 ≤ m.moves.length ∧ (x.2 = false → ∀ i j : Nat, j < i → i < x.1 → (overR m i j).2.1 = false)) (fun x => m.moves.length - x.1) (0, false) ⟨Nat.zero_le _, fun _ i j _ h => by omega⟩ ⟨rfl, rfl, rfl, rfl, rfl, trivial⟩ rfl ⟨rfl, rfl, trivial⟩ rfl rfl ?_
  rintro ⟨i, b⟩ ⟨hi, hb⟩ ih
  simp only at hi hb
  refine g_run TrydT_ok Tryd.func9 ?_
  first | refine g_cnd TrydT_ok Tryd.func9 rfl (fun g1 => ?_) (fun g1 => ?_) | refine g_know TrydT_ok Tryd.func9 rfl (fun g1 => ?_) (fun g1 => ?_) | refine s_know TrydT_ok (fun g1 => ?_) (fun g1 => ?_)
  · have h1 : i < m.moves.length := by simpa using g1
    clear g1
    refine g_loop ?_
    refine rch_loop2 (fun x : Nat × Bool => [(3, .own 0 3 0 0), (4, ints u), (6, .own 0 6 0 0), (8, bb x.2), (9, ii i), (10, ii x.1)]) (fun _ => [(3, .box (extC m)), (6, .box (extC L))]) (fun _ => O) 182
      (fun x => x.1 ≤ i ∧ (x.2 = false → (∀ i' j : Nat, j < i' → i' < i → (overR m i' j).2.1 = false) ∧ ∀ j : Nat, j < x.1 → (overR m i j).2.1 = false)) (fun x => i - x.1) (0, b) ⟨Nat.zero_le _, fun h => ⟨hb h, fun j h => by omega⟩⟩ ⟨rfl, rfl, rfl, rfl, rfl, rfl, trivial⟩ rfl ⟨rfl, rfl, trivial⟩ rfl rfl ?_
    rintro ⟨j, b2⟩ ⟨hj, hb2⟩ ih2
    simp only at hj hb2
    refine g_run TrydT_ok Tryd.func9 ?_
    first | refine g_cnd TrydT_ok Tryd.func9 rfl (fun g2 => ?_) (fun g2 => ?_) | refine g_know TrydT_ok Tryd.func9 rfl (fun g2 => ?_) (fun g2 => ?_) | refine s_know TrydT_ok (fun g2 => ?_) (fun g2 => ?_)
    · have h2 : j < i := by simpa using g2
      clear g2
      have h33 := fun O => h33 O i j
      have hstep : ∀ fnd, fnd = (overR m i j).2.1 → ∀ b3, (b3 = false → b2 = false ∧ fnd = false) → b3 = false → (∀ i' j : Nat, j < i' → i' < i → (overR m i' j).2.1 = false) ∧ ∀ j' : Nat, j' < j + 1 → (overR m i j').2.1 = false := by
        intro fnd hf b3 h3 h4
        obtain ⟨h5, h6⟩ := h3 h4
        obtain ⟨h7, h8⟩ := hb2 h5
        refine ⟨h7, fun j' hj' => ?_⟩
        by_cases e : j' = j
        · subst e; rw [← hf]; exact h6
        · exact h8 j' (by omega)
      generalize hov : overR m (i : Int) (j : Int) = ov at h33 hstep
      obtain ⟨ol, ob, oe⟩ := ov
      simp only at h33 hstep
      first | refine g_call TrydT_ok Tryd.func9 (h33 _) rfl rfl rfl rfl rfl ?_ | refine s_callq TrydT_ok (fun _ => h33 _) rfl rfl rfl ?_
      cases b2 with
      | true =>
        first | refine g_cnd TrydT_ok Tryd.func9 rfl (fun h3 => ?_) (fun h3 => ?_) | refine g_know TrydT_ok Tryd.func9 rfl (fun h3 => ?_) (fun h3 => ?_) | refine s_know TrydT_ok (fun h3 => ?_) (fun h3 => ?_)
        rotate_left
        · exact absurd h3 (by simp)
        refine g_loop ?_
        exact ih2 (j + 1, true) _ _ ⟨h2, fun h => by cases h⟩ (by simp only; omega) ⟨rfl, rfl, rfl, rfl, rfl, congrArg ii (wsucc (n := 8) (by omega) (by decide)), trivial⟩ rfl ⟨rfl, rfl, trivial⟩ rfl rfl
      | false =>
        first | refine g_cnd TrydT_ok Tryd.func9 rfl (fun h3 => ?_) (fun h3 => ?_) | refine g_know TrydT_ok Tryd.func9 rfl (fun h3 => ?_) (fun h3 => ?_) | refine s_know TrydT_ok (fun h3 => ?_) (fun h3 => ?_)
        · exact absurd h3 (by simp)
        refine g_loop ?_
        exact ih2 (j + 1, ob) _ _ ⟨h2, fun h => hstep ob rfl ob (fun h => ⟨rfl, h⟩) h⟩ (by simp only; omega) ⟨rfl, rfl, rfl, rfl, rfl, congrArg ii (wsucc (n := 8) (by omega) (by decide)), trivial⟩ rfl ⟨rfl, rfl, trivial⟩ rfl rfl
    · have h2 : i ≤ j := by simpa using g2
      clear g2 ih2
      refine g_loop ?_
      refine ih (i + 1, b2) _ _ ⟨h1, fun h i' j' hj' hi' => ?_⟩ (by simp only; omega) ⟨rfl, rfl, rfl, rfl, congrArg ii (wsucc (n := 8) (by omega) (by decide)), trivial⟩ rfl ⟨rfl, rfl, trivial⟩ rfl rfl
      obtain ⟨h3, h4⟩ := hb2 h
      by_cases e : i' = i
      · subst e; exact h4 j' (by omega)
      · exact h3 i' j' hj' (by omega)
  have h1 : m.moves.length ≤ i := by simpa using g1
  clear g1 ih
  have hb : b = false → K ≠ 18 := fun h => hnc fun i' j' hj' hi' => hb h i' j' hj' (by omega)
  clear hnc h33
  refine g_stop ?_
  refine rch_meet (l := [(3, .own 0 3 0 0), (4, ints u), (6, .own 0 6 0 0), (8, bb b)]) (Hv := [(3, .box (extC m)), (6, .box (extC L))]) (n := 182) ?_ ⟨rfl, rfl, rfl, rfl, trivial⟩ rfl ⟨rfl, rfl, trivial⟩ rfl rfl
  apply join_p (P := True) (s6 := { σ := [(3, .own 0 3 0 0), (4, ints u), (6, .own 0 6 0 0), (14, stasD ST), (16, ints B), (18, ii K)], S := [(3, .box (extC m)), (6, .box (extC L))] :: O, n := 182 })
  · intro J
    have hfin : ∀ h2 : (!(decide (K ≠ 0) == (K != 0))) = true, False := fun h => by by_cases hK : K = 0 <;> simp [hK] at h
    have hlast : ∀ h2 : (!(decide (K ≠ 0) == decide ((B.length : Int) > 0))) = true, False := fun h => by
      by_cases hK : K = 0
      · rw [hb0 hK] at h
        simp [hK] at h
      · have := List.length_pos_iff.2 (hb1 hK)
        rw [decide_eq_true (show (B.length : Int) > 0 by omega)] at h
        simp [hK] at h
    refine g_run TrydT_ok Tryd.func9 ?_
    refine g_go TrydT_ok Tryd.func9 ?_
    refine g_callT TrydT_ok Tryd.func9 hE (h14 _) rfl rfl rfl rfl rfl rfl ?_
    refine g_callT TrydT_ok Tryd.func9 hE (h15 _) rfl rfl rfl rfl rfl rfl ?_
    repeat (first | refine g_cnd TrydT_ok Tryd.func9 rfl (fun _ => ?_) (fun h => absurd h (by decide)) | refine g_cnd TrydT_ok Tryd.func9 rfl (fun h => absurd h (by decide)) (fun _ => ?_) | refine g_know TrydT_ok Tryd.func9 rfl (fun _ => ?_) (fun h => absurd h (by decide)) | refine g_know TrydT_ok Tryd.func9 rfl (fun h => absurd h (by decide)) (fun _ => ?_) | refine s_know TrydT_ok (fun _ => ?_) (fun h => absurd h (by decide)) | refine s_know TrydT_ok (fun h => absurd h (by decide)) (fun _ => ?_))
    cases b with
    | true =>
      repeat (first | refine g_cnd TrydT_ok Tryd.func9 rfl (fun _ => ?_) (fun h => absurd h (by decide)) | refine g_cnd TrydT_ok Tryd.func9 rfl (fun h => absurd h (by decide)) (fun _ => ?_) | refine g_know TrydT_ok Tryd.func9 rfl (fun _ => ?_) (fun h => absurd h (by decide)) | refine g_know TrydT_ok Tryd.func9 rfl (fun h => absurd h (by decide)) (fun _ => ?_) | refine s_know TrydT_ok (fun _ => ?_) (fun h => absurd h (by decide)) | refine s_know TrydT_ok (fun h => absurd h (by decide)) (fun _ => ?_))
      first | refine g_cnd TrydT_ok Tryd.func9 rfl (fun h2 => ?_) (fun h2 => ?_) | refine g_know TrydT_ok Tryd.func9 rfl (fun h2 => ?_) (fun h2 => ?_) | refine s_know TrydT_ok (fun h2 => ?_) (fun h2 => ?_)
      · exact (hfin h2).elim
      first | refine g_cnd TrydT_ok Tryd.func9 rfl (fun h3 => ?_) (fun h3 => ?_) | refine g_know TrydT_ok Tryd.func9 rfl (fun h3 => ?_) (fun h3 => ?_) | refine s_know TrydT_ok (fun h3 => ?_) (fun h3 => ?_)
      · exact (hlast h3).elim
      refine g_stop ?_
      exact rch_meet (J trivial) ⟨rfl, rfl, rfl, rfl, rfl, rfl, trivial⟩ rfl ⟨rfl, rfl, trivial⟩ rfl rfl
    | false =>
      repeat (first | refine g_cnd TrydT_ok Tryd.func9 rfl (fun _ => ?_) (fun h => absurd h (by decide)) | refine g_cnd TrydT_ok Tryd.func9 rfl (fun h => absurd h (by decide)) (fun _ => ?_) | refine g_know TrydT_ok Tryd.func9 rfl (fun _ => ?_) (fun h => absurd h (by decide)) | refine g_know TrydT_ok Tryd.func9 rfl (fun h => absurd h (by decide)) (fun _ => ?_) | refine s_know TrydT_ok (fun _ => ?_) (fun h => absurd h (by decide)) | refine s_know TrydT_ok (fun h => absurd h (by decide)) (fun _ => ?_))
      first | refine g_cnd TrydT_ok Tryd.func9 rfl (fun h4 => ?_) (fun h4 => ?_) | refine g_know TrydT_ok Tryd.func9 rfl (fun h4 => ?_) (fun h4 => ?_) | refine s_know TrydT_ok (fun h4 => ?_) (fun h4 => ?_)
      · exact absurd (beqT h4) (hb rfl)
      first | refine g_cnd TrydT_ok Tryd.func9 rfl (fun h2 => ?_) (fun h2 => ?_) | refine g_know TrydT_ok Tryd.func9 rfl (fun h2 => ?_) (fun h2 => ?_) | refine s_know TrydT_ok (fun h2 => ?_) (fun h2 => ?_)
      · exact (hfin h2).elim
      first | refine g_cnd TrydT_ok Tryd.func9 rfl (fun h3 => ?_) (fun h3 => ?_) | refine g_know TrydT_ok Tryd.func9 rfl (fun h3 => ?_) (fun h3 => ?_) | refine s_know TrydT_ok (fun h3 => ?_) (fun h3 => ?_)
      · exact (hlast h3).elim
      refine g_stop ?_
      exact rch_meet (J trivial) ⟨rfl, rfl, rfl, rfl, rfl, rfl, trivial⟩ rfl ⟨rfl, rfl, trivial⟩ rfl rfl
  · intro _
    clear h14 h15 hb
    refine g_run TrydT_ok Tryd.func9 ?_
    refine g_go TrydT_ok Tryd.func9 ?_
    refine g_loop ?_
    refine rch_loop2 (fun n : Nat => [(3, .own 0 3 0 0), (4, ints u), (6, .own 0 6 0 0), (14, stasD ST), (16, ints B), (18, ii K), (20, ii n)]) (fun _ => [(3, .box (extC m)), (6, .box (extC L))]) (fun _ => O) 182
      (fun n => n ≤ u.length ∧ ∀ x ∈ u.take n, ovfB (allV m.vars) (m.moves.getD x.toNat ⟨0, 0, 0, zeroE, []⟩).g = false) (fun n => u.length - n) 0 ⟨Nat.zero_le _, by simp⟩ ⟨rfl, rfl, rfl, rfl, rfl, rfl, rfl, trivial⟩ rfl ⟨rfl, rfl, trivial⟩ rfl rfl ?_
    rintro n ⟨hn, hno⟩ ih
    refine g_run TrydT_ok Tryd.func9 ?_
    first | refine g_cnd TrydT_ok Tryd.func9 rfl (fun g1 => ?_) (fun g1 => ?_) | refine g_know TrydT_ok Tryd.func9 rfl (fun g1 => ?_) (fun g1 => ?_) | refine s_know TrydT_ok (fun g1 => ?_) (fun g1 => ?_)
    · have h2 : n < u.length := by simpa using g1
      clear g1
      have hgu : (u.map fun x => [vi x])[(n : Int).toNat]? = some [vi u[n]] := get_mapZ (f := fun x => [vi x]) h2
      have hts : u.take (n + 1) = u.take n ++ [u[n]] := by rw [List.take_add_one, List.getElem?_eq_getElem h2]; rfl
      obtain ⟨x, hx, e⟩ := hum _ (List.getElem_mem h2)
      rw [e] at hgu hts
      have h37 := fun O => h37 O x hx
      have hget : (m.moves.getD ((x : Int)).toNat ⟨0, 0, 0, zeroE, []⟩) = m.moves[x] := by
        rw [Int.toNat_natCast, List.getD_eq_getElem?_getD, List.getElem?_eq_getElem hx]
        rfl
      have hnext : ovfB (allV m.vars) m.moves[x].g = false → ∀ y ∈ u.take (n + 1), ovfB (allV m.vars) (m.moves.getD y.toNat ⟨0, 0, 0, zeroE, []⟩).g = false := by
        intro h y hy
        rw [hts] at hy
        rcases List.mem_append.1 hy with hy | hy
        · exact hno y hy
        · simp only [List.mem_singleton] at hy
          subst hy
          rw [hget]
          exact h
      generalize ovfB (allV m.vars) m.moves[x].g = ov at *
      have hbn : 0 ≤ (n : Int) ∧ (n : Int) < (u.length : Int) := by omega
      first | refine g_need TrydT_ok Tryd.func9 (by exact hbn) ?_ | refine s_need TrydT_ok (by exact hbn) ?_
      first | refine g_elem TrydT_ok Tryd.func9 (hgu) ?_ | refine s_elem TrydT_ok (hgu) ?_
      first | refine g_cnd TrydT_ok Tryd.func9 rfl (fun h3 => ?_) (fun h3 => ?_) | refine g_know TrydT_ok Tryd.func9 rfl (fun h3 => ?_) (fun h3 => ?_) | refine s_know TrydT_ok (fun h3 => ?_) (fun h3 => ?_)
      · have h3 : (x : Int) < 0 := of_decide_eq_true h3
        omega
      first | refine g_cnd TrydT_ok Tryd.func9 rfl (fun h4 => ?_) (fun h4 => ?_) | refine g_know TrydT_ok Tryd.func9 rfl (fun h4 => ?_) (fun h4 => ?_) | refine s_know TrydT_ok (fun h4 => ?_) (fun h4 => ?_)
      · have h4 : (x : Int) ≥ (m.moves.length : Int) := of_decide_eq_true h4
        omega
      first | refine g_call TrydT_ok Tryd.func9 (h37 _) rfl rfl rfl rfl rfl ?_ | refine s_callq TrydT_ok (fun _ => h37 _) rfl rfl rfl ?_
      first | refine g_cnd TrydT_ok Tryd.func9 rfl (fun h5 => ?_) (fun h5 => ?_) | refine g_know TrydT_ok Tryd.func9 rfl (fun h5 => ?_) (fun h5 => ?_) | refine s_know TrydT_ok (fun h5 => ?_) (fun h5 => ?_)
      · refine g_ret TrydT_ok (r := bb true) rfl rfl rfl trivial rfl rfl ?_
        rfl
      · refine g_loop ?_
        exact ih (n + 1) _ _ ⟨h2, hnext h5⟩ (by omega) ⟨rfl, rfl, rfl, rfl, rfl, rfl, congrArg ii (wsucc (n := 8) (by omega) (by decide)), trivial⟩ rfl ⟨rfl, rfl, trivial⟩ rfl rfl
    · have h2 : u.length ≤ n := by simpa using g1
      clear g1 ih
      rw [List.take_of_length_le h2] at hno
      have e := hls hno
      have h14L := h14L e
      have h15L := h15L e
      rw [hrL e] at h14L
      rw [hfL e] at h15L
      simp only at h14L h15L
      refine g_stop ?_
      refine g_run TrydT_ok Tryd.func9 ?_
      refine g_go TrydT_ok Tryd.func9 ?_
      refine g_callT TrydT_ok Tryd.func9 hE (h14L _) rfl rfl rfl rfl rfl rfl ?_
      refine g_callT TrydT_ok Tryd.func9 hE (h15L _) rfl rfl rfl rfl rfl rfl ?_
      repeat (first | refine g_cnd TrydT_ok Tryd.func9 rfl (fun _ => ?_) (fun h => absurd h (by decide)) | refine g_cnd TrydT_ok Tryd.func9 rfl (fun h => absurd h (by decide)) (fun _ => ?_) | refine g_know TrydT_ok Tryd.func9 rfl (fun _ => ?_) (fun h => absurd h (by decide)) | refine g_know TrydT_ok Tryd.func9 rfl (fun h => absurd h (by decide)) (fun _ => ?_) | refine s_know TrydT_ok (fun _ => ?_) (fun h => absurd h (by decide)) | refine s_know TrydT_ok (fun h => absurd h (by decide)) (fun _ => ?_))
      first | refine g_call TrydT_ok Tryd.func9 (hss _) rfl rfl rfl rfl rfl ?_ | refine s_callq TrydT_ok (fun _ => hss _) rfl rfl rfl ?_
      first | refine g_cnd TrydT_ok Tryd.func9 rfl (fun h3 => ?_) (fun h3 => ?_) | refine g_know TrydT_ok Tryd.func9 rfl (fun h3 => ?_) (fun h3 => ?_) | refine s_know TrydT_ok (fun h3 => ?_) (fun h3 => ?_)
      rotate_left
      · exact absurd h3 (by simp)
      first | refine g_call TrydT_ok Tryd.func9 (hwe _) rfl rfl rfl rfl rfl ?_ | refine s_callq TrydT_ok (fun _ => hwe _) rfl rfl rfl ?_
      first | refine g_cnd TrydT_ok Tryd.func9 rfl (fun h4 => ?_) (fun h4 => ?_) | refine g_know TrydT_ok Tryd.func9 rfl (fun h4 => ?_) (fun h4 => ?_) | refine s_know TrydT_ok (fun h4 => ?_) (fun h4 => ?_)
      rotate_left
      · exact absurd h4 (by simp)
      refine g_ret TrydT_ok (r := bb (K == K)) rfl rfl rfl trivial rfl rfl ?_
      simp
end Go.AI
